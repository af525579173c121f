/-
  THE WALK of logbook's read: what a slab tells. Condition: sizes.
-/
import Derived.Test.YthmicniimofagaaGreatB4
namespace Go.Proofs.YthmicniimofagaaGreat
open Fw
open Go.Proofs (encStr)
set_option linter.unusedVariables false
set_option maxRecDepth 100000
set_option maxHeartbeats 1000000

theorem nextF_some {p : Bytes} {k : UInt8} {n v r : Bytes} (h : nextF p = some (k, n, v, r)) : r.length < p.length ∧ v.length ≤ p.length ∧ n.length ≤ 255 := by
  unfold nextF at h
  split at h
  · cases h
  · split at h
    · cases h
    · split at h
      · cases h
      · simp only [Option.some.injEq, Prod.mk.injEq] at h
        obtain ⟨_, rfl, rfl, rfl⟩ := h
        have := (p.getD 5 0).toNat_lt
        simp only [List.length_take, List.length_drop]
        omega
/-- What a slab tells. -/
structure Tale where
  life : Int
  shut : Bool
  has : List (Bytes × Bytes)
def tellN : Nat → Bool → Tale → Bytes → Tale
  | 0, _, t, _ => t
  | f + 1, first, t, p => match nextF p with
    | none => t
    | some (k, name, val, rest) =>
      if first ≠ decide ((k.toNat : Int) = 1) then t
      else if (k.toNat : Int) = 1 then (if (val.length : Int) ≠ 4 then t else tellN f false ⟨beN val, t.shut, t.has⟩ rest)
      else if (k.toNat : Int) = 2 then tellN f false ⟨t.life, t.shut, putG t.has name val⟩ rest
      else if (k.toNat : Int) = 3 then tellN f false ⟨t.life, t.shut, delG t.has name⟩ rest
      else if (k.toNat : Int) = 4 then tellN f false ⟨t.life, true, t.has⟩ rest
      else t
def tell (p : Bytes) : Tale := tellN (p.length + 1) true ⟨0, false, []⟩ p
theorem tellN_none {f : Nat} {b : Bool} {t : Tale} {p : Bytes} (h : nextF p = none) : tellN (f + 1) b t p = t := by rw [tellN, h]
theorem tellN_some {f : Nat} {b : Bool} {t : Tale} {p : Bytes} {k : UInt8} {name val rest : Bytes} (h : nextF p = some (k, name, val, rest)) : tellN (f + 1) b t p =
      if b ≠ decide ((k.toNat : Int) = 1) then t
      else if (k.toNat : Int) = 1 then (if (val.length : Int) ≠ 4 then t else tellN f false ⟨beN val, t.shut, t.has⟩ rest)
      else if (k.toNat : Int) = 2 then tellN f false ⟨t.life, t.shut, putG t.has name val⟩ rest
      else if (k.toNat : Int) = 3 then tellN f false ⟨t.life, t.shut, delG t.has name⟩ rest
      else if (k.toNat : Int) = 4 then tellN f false ⟨t.life, true, t.has⟩ rest
      else t := by rw [tellN, h]
/-- The values of a map, where they lie. -/
def ValsAt (Bv : List Blk) (ms : List (Bytes × (Bytes × Value))) : Prop := ∀ t ∈ ms, RdL Bv encB 1 t.2.2 t.2.1
def plain (ms : List (Bytes × (Bytes × Value))) : List (Bytes × Bytes) := ms.map fun t => (t.1, t.2.1)
theorem ValsAt.mono {Bv B2 : List Blk} {ms : List (Bytes × (Bytes × Value))} (h : ValsAt Bv ms) (hs : ∀ q, q ∈ Bv → q ∈ B2) : ValsAt B2 ms := fun t ht => (h t ht).mono hs
theorem ValsAt.put {Bv B : List Blk} {ms : List (Bytes × (Bytes × Value))} {k val : Bytes} {v : Value} (h : ValsAt Bv ms) (hv : RdL B encB 1 v val) : ValsAt (B ++ Bv) (putG ms k (val, v)) := by
  rintro ⟨k2, val2, v2⟩ ht
  rcases mem_putG.1 ht with ⟨_, h2⟩ | ⟨_, h2⟩
  · cases h2; exact hv.mono fun q hq => List.mem_append_left _ hq
  · exact (h _ h2).mono fun q hq => List.mem_append_right _ hq
theorem ValsAt.del {Bv : List Blk} {ms : List (Bytes × (Bytes × Value))} {k : Bytes} (h : ValsAt Bv ms) : ValsAt Bv (delG ms k) := by
  rintro ⟨k2, val2, v2⟩ ht
  exact h _ (mem_delG.1 ht).2
theorem plain_put (ms : List (Bytes × (Bytes × Value))) (k val : Bytes) (v : Value) : plain (putG ms k (val, v)) = putG (plain ms) k val := mapG_put (fun g : Bytes × Value => g.1) ms k (val, v)
theorem plain_del (ms : List (Bytes × (Bytes × Value))) (k : Bytes) : plain (delG ms k) = delG (plain ms) k := mapG_del (fun g : Bytes × Value => g.1) ms k
theorem slab_app {a b : List Blk} {x y : List Blk} {l : List (List Blk)} {F : List Blk} : cat (x :: y :: (a ++ b) :: l) F = cat (x :: y :: a :: b :: l) F := by
  show x ++ (y ++ ((a ++ b) ++ cat l F)) = x ++ (y ++ (a ++ (b ++ cat l F)))
  rw [List.append_assoc a b]
abbrev vOf : Bytes × Value → Value := fun g => g.2

theorem logRead_ca (b : Nat) (s : Slab) (Bk : List Blk) (hs : SlabAt b s Bk) (hsz : s.sure.length + s.loose.length ≤ 1000000) (O : Out) (L : List Blk) :
    CA Tryz.prog 128 [PT b] O (Bk ++ L) fun v L' => (s.down = true ∧ v = .tuple #[.agg #[U32 0, .bool false, .map none], I 5] ∧ L' = Bk ++ L) ∨
      (¬ s.down = true ∧ ∃ bm es c ms Bv, v = .tuple #[.agg #[U32 (tell (s.sure ++ s.loose)).life, .bool (tell (s.sure ++ s.loose)).shut, .map (some bm)], I 0] ∧ L' = cat [[(bm, .map es c)], Bv] (Bk ++ L) ∧ MapS es c vOf ms ∧ ValsAt Bv ms ∧ plain ms = (tell (s.sure ++ s.loose)).has) := by
  refine ca_enter Tryz.func128 rfl rfl ?_
  rw [Tryz.ntmps128]
  simp only [envOf]
  refine cg_seq ?_
  refine cg_region ?_
  refine rg_e (.inl rfl) rfl rfl (by exact ev_alloc (by first | exact CellsOf.agg | exact CellsOf.one rfl)) ?_
  rintro _ _ ⟨b2, rfl, rfl⟩
  refine rg_q (.inl rfl) rfl rfl (by exact QW.qr (qw_assign rfl)) ?_
  refine rg_nil ?_
  refine qg_then ?_
  refine cg_seq ?_
  refine cg_region ?_
  refine rg_q (.inl rfl) rfl rfl (by exact QW.qr (qw_move rfl)) ?_
  refine rg_e (.inl rfl) rfl rfl (by exact ev_call0 rfl (.cons rfl (.nil)) ((read_ca b s Bk O ((b2, _) :: L) hs hsz).pre (fun w h => h.perm (cat_perm (ls' := [Bk, [(b2, _)]]) (ls := [[(b2, _)], Bk]) (by repeat (first | exact PermM.nil | refine PermM.cons (by repeat (first | exact Ins.here | apply Ins.there)) ?_)))))) ?_
  rintro _ _ (⟨hdn, rfl, rfl⟩ | ⟨hdn, pv, Bp, rfl, rfl, hop⟩)
  · skip
    refine rg_q (.inl rfl) rfl rfl (by exact QW.qr (qw_move rfl)) ?_
    refine rg_q (.inl rfl) rfl rfl (by exact QW.qr (qw_extract rfl rfl)) ?_
    refine rg_q (.inl rfl) rfl rfl (by exact QW.qr (qw_extract rfl rfl)) ?_
    refine rg_q (.inl rfl) rfl rfl (by exact QW.qr (qw_assign rfl)) ?_
    refine rg_q (.inl rfl) rfl rfl (by exact QW.qr (qw_assign rfl)) ?_
    refine rg_nil ?_
    refine qg_then ?_
    refine cg_seq ?_
    refine cg_seq ?_
    refine cg_region ?_
    refine rg_q (.inl rfl) rfl rfl (by exact QW.qr (qw_move rfl)) ?_
    refine rg_q (.inl rfl) rfl rfl (by exact QW.qr (qw_neq_t rfl rfl (by decide))) ?_
    refine rg_nil ?_
    refine qg_then ?_
    refine cg_true rfl ?_
    refine cg_seq ?_
    refine cg_region ?_
    refine rg_q (.inl rfl) rfl rfl (by exact QW.qr (qw_build (.nil) rfl (.nil))) ?_
    refine rg_q (.inl rfl) rfl rfl (by exact QW.qr (qw_move rfl)) ?_
    refine rg_e0 (.inl rfl) rfl (by exact ev_store rfl rfl (by first | exact CellsOf.agg | exact CellsOf.one rfl) (by repeat (first | exact List.Mem.head _ | apply List.Mem.tail | apply List.mem_append_right | assumption)) (by repeat (first | exact SetSeg.done | apply SetSeg.take | apply SetSeg.skip)) rfl rfl (by repeat (first | exact Upd.here | apply Upd.there | apply Upd.app)) (by first | exact Or.inl ⟨inferInstance, rfl⟩ | exact Or.inr inferInstance)) ?_
    rintro _ _ ⟨rfl, rfl⟩
    refine rg_q (.inl rfl) rfl rfl (by exact QW.qr (qw_assign rfl)) ?_
    refine rg_nil ?_
    refine qg_then ?_
    refine cg_ret ?_
    refine qg_then_ret ?_
    exact qg_end_sp (.inl rfl) _ (.cons (resCellN rfl (by repeat (first | exact List.Mem.head _ | apply List.Mem.tail | apply List.mem_append_right | assumption)) (by repeat (first | exact SegL.done | apply SegL.take | apply SegL.skip))) (.cons (.tmp rfl) (.nil))) _ (cat_sub (ls' := [Bk]) (ls := [Bk, [(b2, _)]]) (by repeat (first | exact SubM.nil | refine SubM.cons (by repeat (first | exact Ins.here | apply Ins.there)) ?_))) (.inl ⟨hdn, rfl, rfl⟩)
  · skip
    obtain ⟨pp, cp, rfl, hqp⟩ := id (hop.rd (fun _ => rfl) (by decide))
    generalize hpl0 : s.sure ++ s.loose = p0 at hop ⊢
    have hp0l : p0.length ≤ 1000000 := by rw [← hpl0, List.length_append]; omega
    have hq0 := hop.rd (fun _ => rfl) (by decide)
    refine rg_q (.inl rfl) rfl rfl (by exact QW.qr (qw_move rfl)) ?_
    refine rg_q (.inl rfl) rfl rfl (by exact QW.qr (qw_extract rfl rfl)) ?_
    refine rg_q (.inl rfl) rfl rfl (by exact QW.qr (qw_extract rfl rfl)) ?_
    refine rg_q (.inl rfl) rfl rfl (by exact QW.qr (qw_assign rfl)) ?_
    refine rg_q (.inl rfl) rfl rfl (by exact QW.qr (qw_assign rfl)) ?_
    refine rg_nil ?_
    refine qg_then ?_
    refine cg_seq ?_
    refine cg_seq ?_
    refine cg_region ?_
    refine rg_q (.inl rfl) rfl rfl (by exact QW.qr (qw_move rfl)) ?_
    refine rg_q (.inl rfl) rfl rfl (by exact QW.qr (qw_neq_f rfl rfl (fun h => h rfl))) ?_
    refine rg_nil ?_
    refine qg_then ?_
    refine cg_false rfl ?_
    refine cg_skip ?_
    refine qg_then ?_
    refine cg_seq ?_
    refine cg_region ?_
    refine rg_e (.inl rfl) rfl rfl (by exact ev_makeMap0) ?_
    rintro _ _ ⟨b22, rfl, rfl⟩
    refine rg_q (.inl rfl) rfl rfl (by exact QW.qr (qw_build (.cons rfl (.nil)) rfl (.cons rfl (by first | exact CellsOf.agg | exact CellsOf.one rfl) (by repeat (first | exact SetSeg.done | apply SetSeg.take | apply SetSeg.skip)) (by rfl) (by rfl) (.nil)))) ?_
    refine rg_e (.inl rfl) rfl rfl (by exact ev_alloc (by first | exact CellsOf.agg | exact CellsOf.one rfl)) ?_
    rintro _ _ ⟨b6, rfl, rfl⟩
    refine rg_e0 (.inl rfl) rfl (by exact ev_store rfl rfl (by first | exact CellsOf.agg | exact CellsOf.one rfl) (by repeat (first | exact List.Mem.head _ | apply List.Mem.tail | apply List.mem_append_right | assumption)) (by repeat (first | exact SetSeg.done | apply SetSeg.take | apply SetSeg.skip)) rfl rfl (by repeat (first | exact Upd.here | apply Upd.there | apply Upd.app)) (by first | exact Or.inl ⟨inferInstance, rfl⟩ | exact Or.inr inferInstance)) ?_
    rintro _ _ ⟨rfl, rfl⟩
    refine rg_nil ?_
    refine qg_then ?_
    refine cg_seq ?_
    refine cg_region ?_
    refine rg_q (.inl rfl) rfl rfl (by exact QW.qr (qw_assign rfl)) ?_
    refine rg_nil ?_
    refine qg_then ?_
    refine cg_block ?_
    refine cg_loop (fun E' L' m => ∃ (f : Nat) (first : Bool) (t : Tale) (q : Bytes) (pv : Value) (es : Array MapEntry) (c : Nat) (ms : List (Bytes × (Bytes × Value))) (Bv : List Blk), q.length < f ∧ q.length ≤ 1000000 ∧ tell p0 = tellN f first t q ∧ RdL Bp encB 1 pv q ∧ MapS es c vOf ms ∧ ValsAt Bv ms ∧ plain ms = t.has ∧
      E' = [(2, PT b2), (4, pv), (6, PT b6), (7, .bool first)] ∧ L' = cat [[(b6, .cells [U32 t.life, Value.bool t.shut, Value.map (some b22)].toArray 247 (0, 0))], [(b22, .map es c)], Bv, Bp, [(b2, .cells [U32 0, Value.bool false, Value.map none].toArray 247 (0, 0))]] (Bk ++ L) ∧ m = f)
      _ _ _ ⟨p0.length + 1, true, ⟨0, false, []⟩, p0, _, #[], 0, [], [], Nat.lt_succ_self _, hp0l, rfl, hq0, MapS.nil, fun t ht => (by cases ht), rfl, rfl, rfl, rfl⟩ (by repeat (first | exact Sub.nil | refine Sub.cons rfl ?_ | refine Sub.cons (congrArg (fun z => some (Value.int IntKind.i64 z)) (by omega)) ?_)) (cat_perm (ls' := [[(b6, _)], [(b22, _)], [], Bp, [(b2, _)], Bk]) (ls := [[], [(b6, _)], [(b22, _)], Bp, Bk, [(b2, _)]]) (by repeat (first | exact PermM.nil | refine PermM.cons (by repeat (first | exact Ins.here | apply Ins.there)) ?_))) ?_
    clear hqp hq0 hp0l hop
    rintro _ _ _ ⟨f, first, t, q, pv, es, c, ms, Bv, hqf, hql, hT, hq, hms, hva, hpl, rfl, rfl, hmf⟩
    obtain ⟨f, rfl⟩ : ∃ f2, f = f2 + 1 := ⟨f - 1, by omega⟩
    obtain ⟨pq, cq, rfl, hqq⟩ := id hq
    refine cg_seq ?_
    refine cg_block ?_
    refine cg_seq ?_
    refine cg_region ?_
    refine rg_q (.inl rfl) rfl rfl (by exact QW.qr (qw_move rfl)) ?_
    refine rg_e (.inl rfl) rfl rfl (by exact ev_call0 rfl (.cons rfl (.nil)) (next_ca q _ hql O Bp _ (fun q hq => mem_cat (s := Bp) (by repeat (first | exact List.Mem.head _ | apply List.Mem.tail)) hq) hq)) ?_
    rintro _ _ ⟨rfl, hm⟩
    generalize hnx : nextF q = nx at hm
    rcases nx with _ | ⟨kd, name, val, rest⟩
    · skip
      replace hm := hm
      subst hm
      rw [tellN_none hnx] at hT
      refine rg_q (.inl rfl) rfl rfl (by exact QW.qr (qw_move rfl)) ?_
      refine rg_q (.inl rfl) rfl rfl (by exact QW.qr (qw_extract rfl rfl)) ?_
      refine rg_q (.inl rfl) rfl rfl (by exact QW.qr (qw_extract rfl rfl)) ?_
      refine rg_q (.inl rfl) rfl rfl (by exact QW.qr (qw_extract rfl rfl)) ?_
      refine rg_q (.inl rfl) rfl rfl (by exact QW.qr (qw_extract rfl rfl)) ?_
      refine rg_q (.inl rfl) rfl rfl (by exact QW.qr (qw_extract rfl rfl)) ?_
      refine rg_q (.inl rfl) rfl rfl (by exact QW.qr (qw_assign rfl)) ?_
      refine rg_q (.inl rfl) rfl rfl (by exact QW.qr (qw_assign rfl)) ?_
      refine rg_q (.inl rfl) rfl rfl (by exact QW.qr (qw_assign rfl)) ?_
      refine rg_q (.inl rfl) rfl rfl (by exact QW.qr (qw_assign rfl)) ?_
      refine rg_q (.inl rfl) rfl rfl (by exact QW.qr (qw_assign rfl)) ?_
      refine rg_nil ?_
      refine qg_then ?_
      refine cg_seq ?_
      refine cg_seq ?_
      refine cg_region ?_
      refine rg_q (.inl rfl) rfl rfl (by exact QW.qr (qw_move rfl)) ?_
      refine rg_q (.inl rfl) rfl rfl (by exact QW.qr (qw_not rfl)) ?_
      refine rg_q (.inl rfl) rfl rfl (by exact QW.qr (qw_move rfl)) ?_
      refine rg_s (guard_mk rfl rfl rfl rfl) rfl rfl ?_
      refine rg_s (guard_mk rfl rfl rfl rfl) rfl rfl ?_
      refine rg_s (guard_mk rfl rfl rfl rfl) rfl rfl ?_
      refine rg_s (guard_mk rfl rfl rfl rfl) rfl rfl ?_
      refine rg_q (.inl rfl) rfl rfl (by exact QW.qr (qw_pick_t rfl rfl)) ?_
      refine rg_nil ?_
      refine qg_then ?_
      refine cg_true rfl ?_
      refine cg_seq ?_
      refine cg_region ?_
      refine rg_q (.inl rfl) rfl rfl (by exact qr_loadN rfl (by repeat (first | exact List.Mem.head _ | apply List.Mem.tail | apply List.mem_append_right | assumption)) (by repeat (first | exact SegL.done | apply SegL.take | apply SegL.skip))) ?_
      refine rg_e0 (.inl rfl) rfl (by exact ev_store rfl rfl (by first | exact CellsOf.agg | exact CellsOf.one rfl) (by repeat (first | exact List.Mem.head _ | apply List.Mem.tail | apply List.mem_append_right | assumption)) (by repeat (first | exact SetSeg.done | apply SetSeg.take | apply SetSeg.skip)) rfl rfl (by repeat (first | exact Upd.here | apply Upd.there | apply Upd.app)) (by first | exact Or.inl ⟨inferInstance, rfl⟩ | exact Or.inr inferInstance)) ?_
      rintro _ _ ⟨rfl, rfl⟩
      refine rg_q (.inl rfl) rfl rfl (by exact QW.qr (qw_assign rfl)) ?_
      refine rg_nil ?_
      refine qg_then ?_
      refine cg_ret ?_
      refine qg_then_ret ?_
      refine qg_block_ret ?_
      refine qg_then_ret ?_
      refine qg_then_ret ?_
      refine qg_block_ret ?_
      exact qg_end_sp (.inl rfl) _ (.cons (resCellN rfl (by repeat (first | exact List.Mem.head _ | apply List.Mem.tail | apply List.mem_append_right | assumption)) (by repeat (first | exact SegL.done | apply SegL.take | apply SegL.skip))) (.cons (.tmp rfl) (.nil))) _ (cat_sub (ls' := [[(b22, _)], Bv]) (ls := [[(b6, _)], [(b22, _)], Bv, Bp, [(b2, _)]]) (by repeat (first | exact SubM.nil | refine SubM.cons (by repeat (first | exact Ins.here | apply Ins.there)) ?_))) (.inr ⟨hdn, b22, es, c, ms, Bv, by rw [hT]; rfl, rfl, hms, hva, by rw [hT]; exact hpl⟩)
    · skip
      obtain ⟨vv, rv, rfl, hvv, hrv⟩ := hm
      replace hvv : RdL Bp encB 1 vv val := hvv
      replace hrv : RdL Bp encB 1 rv rest := hrv
      obtain ⟨hrl, hvl, hnl⟩ := nextF_some hnx
      rw [tellN_some hnx] at hT
      obtain ⟨pv2, cv2, rfl, hqv⟩ := id hvv
      obtain ⟨pr2, cr2, rfl, hqr⟩ := id hrv
      refine rg_q (.inl rfl) rfl rfl (by exact QW.qr (qw_move rfl)) ?_
      refine rg_q (.inl rfl) rfl rfl (by exact QW.qr (qw_extract rfl rfl)) ?_
      refine rg_q (.inl rfl) rfl rfl (by exact QW.qr (qw_extract rfl rfl)) ?_
      refine rg_q (.inl rfl) rfl rfl (by exact QW.qr (qw_extract rfl rfl)) ?_
      refine rg_q (.inl rfl) rfl rfl (by exact QW.qr (qw_extract rfl rfl)) ?_
      refine rg_q (.inl rfl) rfl rfl (by exact QW.qr (qw_extract rfl rfl)) ?_
      refine rg_q (.inl rfl) rfl rfl (by exact QW.qr (qw_assign rfl)) ?_
      refine rg_q (.inl rfl) rfl rfl (by exact QW.qr (qw_assign rfl)) ?_
      refine rg_q (.inl rfl) rfl rfl (by exact QW.qr (qw_assign rfl)) ?_
      refine rg_q (.inl rfl) rfl rfl (by exact QW.qr (qw_assign rfl)) ?_
      refine rg_q (.inl rfl) rfl rfl (by exact QW.qr (qw_assign rfl)) ?_
      refine rg_nil ?_
      refine qg_then ?_
      refine cg_seq ?_
      refine cg_seq ?_
      refine cg_region ?_
      refine rg_q (.inl rfl) rfl rfl (by exact QW.qr (qw_move rfl)) ?_
      refine rg_q (.inl rfl) rfl rfl (by exact QW.qr (qw_not rfl)) ?_
      refine rg_q (.inl rfl) rfl rfl (by exact QW.qr (qw_move rfl)) ?_
      refine rg_q (.inr (guard_mk rfl rfl rfl rfl)) rfl rfl (by exact QW.qr (qw_move rfl)) ?_
      refine rg_q (.inr (guard_mk rfl rfl rfl rfl)) rfl rfl (by exact QW.qr (qw_move rfl)) ?_
      refine rg_q (.inr (guard_mk rfl rfl rfl rfl)) rfl rfl (by exact QW.qr (qw_eql rfl rfl)) ?_
      refine rg_split (.inr (guard_mk rfl rfl rfl rfl)) rfl rfl (by exact qc_neq_bool rfl rfl) ?_ ?_
      · intro hf
        rw [if_pos hf] at hT
        refine rg_q (.inl rfl) rfl rfl (by exact QW.qr (qw_pick_f rfl rfl)) ?_
        refine rg_nil ?_
        refine qg_then ?_
        refine cg_true rfl ?_
        refine cg_seq ?_
        refine cg_region ?_
        refine rg_q (.inl rfl) rfl rfl (by exact qr_loadN rfl (by repeat (first | exact List.Mem.head _ | apply List.Mem.tail | apply List.mem_append_right | assumption)) (by repeat (first | exact SegL.done | apply SegL.take | apply SegL.skip))) ?_
        refine rg_e0 (.inl rfl) rfl (by exact ev_store rfl rfl (by first | exact CellsOf.agg | exact CellsOf.one rfl) (by repeat (first | exact List.Mem.head _ | apply List.Mem.tail | apply List.mem_append_right | assumption)) (by repeat (first | exact SetSeg.done | apply SetSeg.take | apply SetSeg.skip)) rfl rfl (by repeat (first | exact Upd.here | apply Upd.there | apply Upd.app)) (by first | exact Or.inl ⟨inferInstance, rfl⟩ | exact Or.inr inferInstance)) ?_
        rintro _ _ ⟨rfl, rfl⟩
        refine rg_q (.inl rfl) rfl rfl (by exact QW.qr (qw_assign rfl)) ?_
        refine rg_nil ?_
        refine qg_then ?_
        refine cg_ret ?_
        refine qg_then_ret ?_
        refine qg_block_ret ?_
        refine qg_then_ret ?_
        refine qg_then_ret ?_
        refine qg_block_ret ?_
        exact qg_end_sp (.inl rfl) _ (.cons (resCellN rfl (by repeat (first | exact List.Mem.head _ | apply List.Mem.tail | apply List.mem_append_right | assumption)) (by repeat (first | exact SegL.done | apply SegL.take | apply SegL.skip))) (.cons (.tmp rfl) (.nil))) _ (cat_sub (ls' := [[(b22, _)], Bv]) (ls := [[(b6, _)], [(b22, _)], Bv, Bp, [(b2, _)]]) (by repeat (first | exact SubM.nil | refine SubM.cons (by repeat (first | exact Ins.here | apply Ins.there)) ?_))) (.inr ⟨hdn, b22, es, c, ms, Bv, by rw [hT]; rfl, rfl, hms, hva, by rw [hT]; exact hpl⟩)
      · intro hf
        rw [if_neg hf] at hT
        refine rg_q (.inl rfl) rfl rfl (by exact QW.qr (qw_pick_f rfl rfl)) ?_
        refine rg_nil ?_
        refine qg_then ?_
        refine cg_false rfl ?_
        refine cg_skip ?_
        refine qg_then ?_
        refine cg_seq ?_
        refine cg_region ?_
        refine rg_q (.inl rfl) rfl rfl (by exact QW.qr (qw_move rfl)) ?_
        refine rg_q (.inl rfl) rfl rfl (by exact QW.qr (qw_assign rfl)) ?_
        refine rg_nil ?_
        refine qg_then ?_
        refine cg_seq ?_
        refine cg_region ?_
        refine rg_q (.inl rfl) rfl rfl (by exact QW.qr (qw_move rfl)) ?_
        refine rg_nil ?_
        refine qg_then ?_
        refine cg_block ?_
        refine cg_seq ?_
        refine cg_region ?_
        refine rg_split (.inl rfl) rfl rfl (by exact qc_eql rfl rfl) ?_ ?_
        · intro k1
          rw [if_pos k1] at hT
          refine rg_q (.inl rfl) rfl rfl (by exact QW.qr (qw_assign rfl)) ?_
          refine rg_nil ?_
          refine qg_then ?_
          refine cg_true rfl ?_
          refine cg_seq ?_
          refine cg_seq ?_
          refine cg_region ?_
          refine rg_q (.inl rfl) rfl rfl (by exact QW.qr (qw_move rfl)) ?_
          refine rg_q (.inl rfl) rfl rfl (by exact QW.qr (qw_len_slice (t := 39) (.cons rfl (.nil)) rfl)) ?_
          refine rg_split (.inl rfl) rfl rfl (by exact qc_neq rfl rfl) ?_ ?_
          · intro h4
            rw [if_pos h4] at hT
            refine rg_nil ?_
            refine qg_then ?_
            refine cg_true rfl ?_
            refine cg_seq ?_
            refine cg_region ?_
            refine rg_q (.inl rfl) rfl rfl (by exact qr_loadN rfl (by repeat (first | exact List.Mem.head _ | apply List.Mem.tail | apply List.mem_append_right | assumption)) (by repeat (first | exact SegL.done | apply SegL.take | apply SegL.skip))) ?_
            refine rg_e0 (.inl rfl) rfl (by exact ev_store rfl rfl (by first | exact CellsOf.agg | exact CellsOf.one rfl) (by repeat (first | exact List.Mem.head _ | apply List.Mem.tail | apply List.mem_append_right | assumption)) (by repeat (first | exact SetSeg.done | apply SetSeg.take | apply SetSeg.skip)) rfl rfl (by repeat (first | exact Upd.here | apply Upd.there | apply Upd.app)) (by first | exact Or.inl ⟨inferInstance, rfl⟩ | exact Or.inr inferInstance)) ?_
            rintro _ _ ⟨rfl, rfl⟩
            refine rg_q (.inl rfl) rfl rfl (by exact QW.qr (qw_assign rfl)) ?_
            refine rg_nil ?_
            refine qg_then ?_
            refine cg_ret ?_
            refine qg_then_ret ?_
            refine qg_block_ret ?_
            refine qg_block_ret ?_
            refine qg_then_ret ?_
            refine qg_then_ret ?_
            refine qg_block_ret ?_
            exact qg_end_sp (.inl rfl) _ (.cons (resCellN rfl (by repeat (first | exact List.Mem.head _ | apply List.Mem.tail | apply List.mem_append_right | assumption)) (by repeat (first | exact SegL.done | apply SegL.take | apply SegL.skip))) (.cons (.tmp rfl) (.nil))) _ (cat_sub (ls' := [[(b22, _)], Bv]) (ls := [[(b6, _)], [(b22, _)], Bv, Bp, [(b2, _)]]) (by repeat (first | exact SubM.nil | refine SubM.cons (by repeat (first | exact Ins.here | apply Ins.there)) ?_))) (.inr ⟨hdn, b22, es, c, ms, Bv, by rw [hT]; rfl, rfl, hms, hva, by rw [hT]; exact hpl⟩)
          · intro h4
            rw [if_neg h4] at hT
            have hlt := beN_lt 4 val (by omega)
            refine rg_nil ?_
            refine qg_then ?_
            refine cg_false rfl ?_
            refine cg_skip ?_
            refine qg_then ?_
            refine cg_region ?_
            refine rg_q (.inl rfl) rfl rfl (by exact QW.qr (qw_move rfl)) ?_
            refine rg_e (.inl rfl) rfl rfl (by exact ev_call0 rfl (.cons rfl (.nil)) (of_ca val _ (by omega) O _ (hvv.mono (fun q hq => mem_cat (s := Bp) (by repeat (first | exact List.Mem.head _ | apply List.Mem.tail)) hq)))) ?_
            rintro _ _ ⟨bI, sv, Bo, rfl, ho, rfl⟩
            refine rg_e (.inl rfl) rfl rfl (by exact ev_call0 rfl (.cons rfl (.nil)) (ofFour sv val Bo ho (by omega) (by omega) bI O _)) ?_
            rintro _ _ ⟨rfl, sv2, rfl⟩
            rw [List.take_of_length_le (by omega)]
            refine rg_q (.inl rfl) rfl rfl (by exact QW.qr (qw_fieldAddr rfl)) ?_
            refine rg_e0 (.inl rfl) rfl (by exact ev_store rfl rfl (by first | exact CellsOf.agg | exact CellsOf.one rfl) (by repeat (first | exact List.Mem.head _ | apply List.Mem.tail | apply List.mem_append_right | assumption)) (by repeat (first | exact SetSeg.done | apply SetSeg.take | apply SetSeg.skip)) rfl rfl (by repeat (first | exact Upd.here | apply Upd.there | apply Upd.app)) (by first | exact Or.inl ⟨inferInstance, rfl⟩ | exact Or.inr inferInstance)) ?_
            rintro _ _ ⟨rfl, rfl⟩
            refine rg_nil ?_
            refine qg_block ?_
            refine qg_block ?_
            refine qg_then ?_
            refine cg_region ?_
            refine rg_q (.inl rfl) rfl rfl (by exact QW.qr (qw_assign rfl)) ?_
            refine rg_nil ?_
            exact qg_round_sp _ _ _ ⟨f, false, ⟨beN val, t.shut, t.has⟩, rest, _, es, c, ms, Bv, by omega, by omega, hT, hrv, hms, hva, hpl, rfl, rfl, rfl⟩ (by repeat (first | exact Sub.nil | refine Sub.cons rfl ?_ | refine Sub.cons (congrArg (fun z => some (Value.int IntKind.i64 z)) (by omega)) ?_)) (cat_sub (ls' := [[(b6, _)], [(b22, _)], Bv, Bp, [(b2, _)]]) (ls := [[(bI, _)], Bo, [(b6, _)], [(b22, _)], Bv, Bp, [(b2, _)]]) (by repeat (first | exact SubM.nil | refine SubM.cons (by repeat (first | exact Ins.here | apply Ins.there)) ?_))) (by omega)
        · intro k1
          rw [if_neg k1] at hT
          refine rg_q (.inl rfl) rfl rfl (by exact QW.qr (qw_assign rfl)) ?_
          refine rg_nil ?_
          refine qg_then ?_
          refine cg_false rfl ?_
          refine cg_seq ?_
          refine cg_region ?_
          refine rg_split (.inl rfl) rfl rfl (by exact qc_eql rfl rfl) ?_ ?_
          · intro k2
            rw [if_pos k2] at hT
            refine rg_q (.inl rfl) rfl rfl (by exact QW.qr (qw_assign rfl)) ?_
            refine rg_nil ?_
            refine qg_then ?_
            refine cg_true rfl ?_
            refine cg_draw follows (.op 0 false (.op 1 false (.op 2 false (.op 3 false (.op 4 true (.op 5 false .done)))))) _ (by kernel_rfl) (SubP.of (List.Sublist.refl _)) ?_
            refine dg_w rfl rfl (.inl rfl) rfl rfl (by exact qw_fieldAddr rfl) ?_
            refine dg_r rfl rfl rfl (.inl rfl) rfl rfl (by exact qr_load1 rfl (by repeat (first | exact List.Mem.head _ | apply List.Mem.tail | apply List.mem_append_right | assumption)) rfl) ?_
            refine dg_w rfl rfl (.inl rfl) rfl rfl (by exact qw_move rfl) ?_
            refine dg_w rfl rfl (.inl rfl) rfl rfl (by exact qw_move rfl) ?_
            refine dg_e rfl rfl (.inl rfl) rfl rfl (by exact ev_call0 rfl (.cons rfl (.nil)) (cloneB_ca val _ O _ (hvv.mono (fun q hq => mem_cat (s := Bp) (by repeat (first | exact List.Mem.head _ | apply List.Mem.tail)) hq)) (by omega))) ?_
            rintro cv _ ⟨Bc, hoc, rfl⟩
            refine ⟨(SubP.of (by repeat (first | exact List.Sublist.refl _ | exact List.nil_sublist _ | exact List.sublist_append_right _ _ | apply List.Sublist.cons_cons | apply List.Sublist.cons | refine List.Sublist.trans ?_ (List.sublist_append_right _ _)))), ?_⟩
            refine dg_g0 rfl rfl (.inl rfl) rfl (by exact ev_mapUpdateS (t := (val, cv)) (L' := fun es c => cat [Bc, [(b6, .cells [U32 t.life, Value.bool t.shut, Value.map (some b22)].toArray 247 (0, 0))], [(b22, .map es c)], Bv, Bp, [(b2, .cells [U32 0, Value.bool false, Value.map none].toArray 247 (0, 0))]] (Bk ++ L)) rfl rfl rfl hms (fun _ _ => (by repeat (first | exact Upd.here | apply Upd.there | apply Upd.app)))) ?_
            rintro _ _ ⟨rfl, es2, c2, rfl, hms2⟩
            refine dg_nil ?_
            refine qg_block ?_
            refine qg_block ?_
            refine qg_then ?_
            refine cg_region ?_
            refine rg_q (.inl rfl) rfl rfl (by exact QW.qr (qw_assign rfl)) ?_
            refine rg_nil ?_
            exact qg_round_sp _ _ _ ⟨f, false, ⟨t.life, t.shut, putG t.has name val⟩, rest, _, es2, c2, _, Bc ++ Bv, by omega, by omega, hT, hrv, hms2, hva.put (hoc.rd (fun _ => rfl) (by decide)), by rw [plain_put, hpl], rfl, rfl, rfl⟩ (by repeat (first | exact Sub.nil | refine Sub.cons rfl ?_ | refine Sub.cons (congrArg (fun z => some (Value.int IntKind.i64 z)) (by omega)) ?_)) (by rw [slab_app]; exact cat_sub (ls' := [[(b6, _)], [(b22, _)], Bc, Bv, Bp, [(b2, _)]]) (ls := [Bc, [(b6, _)], [(b22, _)], Bv, Bp, [(b2, _)]]) (by repeat (first | exact SubM.nil | refine SubM.cons (by repeat (first | exact Ins.here | apply Ins.there)) ?_))) (by omega)
          · intro k2
            rw [if_neg k2] at hT
            refine rg_q (.inl rfl) rfl rfl (by exact QW.qr (qw_assign rfl)) ?_
            refine rg_nil ?_
            refine qg_then ?_
            refine cg_false rfl ?_
            refine cg_seq ?_
            refine cg_region ?_
            refine rg_split (.inl rfl) rfl rfl (by exact qc_eql rfl rfl) ?_ ?_
            · intro k3
              rw [if_pos k3] at hT
              refine rg_q (.inl rfl) rfl rfl (by exact QW.qr (qw_assign rfl)) ?_
              refine rg_nil ?_
              refine qg_then ?_
              refine cg_true rfl ?_
              refine cg_region ?_
              refine rg_q (.inl rfl) rfl rfl (by exact QW.qr (qw_fieldAddr rfl)) ?_
              refine rg_q (.inl rfl) rfl rfl (by exact qr_load1 rfl (by repeat (first | exact List.Mem.head _ | apply List.Mem.tail | apply List.mem_append_right | assumption)) rfl) ?_
              refine rg_q (.inl rfl) rfl rfl (by exact QW.qr (qw_move rfl)) ?_
              refine rg_e0 (.inl rfl) rfl (by exact ev_deleteS (L' := fun es c => cat [[(b6, .cells [U32 t.life, Value.bool t.shut, Value.map (some b22)].toArray 247 (0, 0))], [(b22, .map es c)], Bv, Bp, [(b2, .cells [U32 0, Value.bool false, Value.map none].toArray 247 (0, 0))]] (Bk ++ L)) (.cons rfl (.cons rfl .nil)) hms (fun _ _ => (by repeat (first | exact Upd.here | apply Upd.there | apply Upd.app)))) ?_
              rintro _ _ ⟨rfl, es2, c2, rfl, hms2⟩
              refine rg_nil ?_
              refine qg_block ?_
              refine qg_block ?_
              refine qg_then ?_
              refine cg_region ?_
              refine rg_q (.inl rfl) rfl rfl (by exact QW.qr (qw_assign rfl)) ?_
              refine rg_nil ?_
              exact qg_round_sp _ _ _ ⟨f, false, ⟨t.life, t.shut, delG t.has name⟩, rest, _, es2, c2, _, Bv, by omega, by omega, hT, hrv, hms2, hva.del, by rw [plain_del, hpl], rfl, rfl, rfl⟩ (by repeat (first | exact Sub.nil | refine Sub.cons rfl ?_ | refine Sub.cons (congrArg (fun z => some (Value.int IntKind.i64 z)) (by omega)) ?_)) (SubP.of (List.Sublist.refl _)) (by omega)
            · intro k3
              rw [if_neg k3] at hT
              refine rg_q (.inl rfl) rfl rfl (by exact QW.qr (qw_assign rfl)) ?_
              refine rg_nil ?_
              refine qg_then ?_
              refine cg_false rfl ?_
              refine cg_seq ?_
              refine cg_region ?_
              refine rg_split (.inl rfl) rfl rfl (by exact qc_eql rfl rfl) ?_ ?_
              · intro k4
                rw [if_pos k4] at hT
                refine rg_q (.inl rfl) rfl rfl (by exact QW.qr (qw_assign rfl)) ?_
                refine rg_nil ?_
                refine qg_then ?_
                refine cg_true rfl ?_
                refine cg_region ?_
                refine rg_q (.inl rfl) rfl rfl (by exact QW.qr (qw_fieldAddr rfl)) ?_
                refine rg_e0 (.inl rfl) rfl (by exact ev_store rfl rfl (by first | exact CellsOf.agg | exact CellsOf.one rfl) (by repeat (first | exact List.Mem.head _ | apply List.Mem.tail | apply List.mem_append_right | assumption)) (by repeat (first | exact SetSeg.done | apply SetSeg.take | apply SetSeg.skip)) rfl rfl (by repeat (first | exact Upd.here | apply Upd.there | apply Upd.app)) (by first | exact Or.inl ⟨inferInstance, rfl⟩ | exact Or.inr inferInstance)) ?_
                rintro _ _ ⟨rfl, rfl⟩
                refine rg_nil ?_
                refine qg_block ?_
                refine qg_block ?_
                refine qg_then ?_
                refine cg_region ?_
                refine rg_q (.inl rfl) rfl rfl (by exact QW.qr (qw_assign rfl)) ?_
                refine rg_nil ?_
                exact qg_round_sp _ _ _ ⟨f, false, ⟨t.life, true, t.has⟩, rest, _, es, c, ms, Bv, by omega, by omega, hT, hrv, hms, hva, hpl, rfl, rfl, rfl⟩ (by repeat (first | exact Sub.nil | refine Sub.cons rfl ?_ | refine Sub.cons (congrArg (fun z => some (Value.int IntKind.i64 z)) (by omega)) ?_)) (SubP.of (List.Sublist.refl _)) (by omega)
              · intro k4
                rw [if_neg k4] at hT
                refine rg_q (.inl rfl) rfl rfl (by exact QW.qr (qw_assign rfl)) ?_
                refine rg_nil ?_
                refine qg_then ?_
                refine cg_false rfl ?_
                refine cg_seq ?_
                refine cg_region ?_
                refine rg_q (.inl rfl) rfl rfl (by exact qr_loadN rfl (by repeat (first | exact List.Mem.head _ | apply List.Mem.tail | apply List.mem_append_right | assumption)) (by repeat (first | exact SegL.done | apply SegL.take | apply SegL.skip))) ?_
                refine rg_e0 (.inl rfl) rfl (by exact ev_store rfl rfl (by first | exact CellsOf.agg | exact CellsOf.one rfl) (by repeat (first | exact List.Mem.head _ | apply List.Mem.tail | apply List.mem_append_right | assumption)) (by repeat (first | exact SetSeg.done | apply SetSeg.take | apply SetSeg.skip)) rfl rfl (by repeat (first | exact Upd.here | apply Upd.there | apply Upd.app)) (by first | exact Or.inl ⟨inferInstance, rfl⟩ | exact Or.inr inferInstance)) ?_
                rintro _ _ ⟨rfl, rfl⟩
                refine rg_q (.inl rfl) rfl rfl (by exact QW.qr (qw_assign rfl)) ?_
                refine rg_nil ?_
                refine qg_then ?_
                refine cg_ret ?_
                refine qg_block_ret ?_
                refine qg_block_ret ?_
                refine qg_then_ret ?_
                refine qg_then_ret ?_
                refine qg_block_ret ?_
                exact qg_end_sp (.inl rfl) _ (.cons (resCellN rfl (by repeat (first | exact List.Mem.head _ | apply List.Mem.tail | apply List.mem_append_right | assumption)) (by repeat (first | exact SegL.done | apply SegL.take | apply SegL.skip))) (.cons (.tmp rfl) (.nil))) _ (cat_sub (ls' := [[(b22, _)], Bv]) (ls := [[(b6, _)], [(b22, _)], Bv, Bp, [(b2, _)]]) (by repeat (first | exact SubM.nil | refine SubM.cons (by repeat (first | exact Ins.here | apply Ins.there)) ?_))) (.inr ⟨hdn, b22, es, c, ms, Bv, by rw [hT]; rfl, rfl, hms, hva, by rw [hT]; exact hpl⟩)

end Go.Proofs.YthmicniimofagaaGreat