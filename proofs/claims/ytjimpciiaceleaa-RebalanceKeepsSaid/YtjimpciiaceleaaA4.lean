/-
  THE WALKS of money's functions (3): fees. No condition beyond the kinds' ranges.
-/
import Derived.Test.YtjimpciiaceleaaA1
import Derived.Test.YtjimpciiaceleaaA3
import Derived.Test.YtjimpciiaceleaaFwI
namespace Go.Proofs.Ytjimpciiaceleaa
open Fw
set_option linter.unusedVariables false
set_option maxRecDepth 100000

noncomputable def partF (a m : Int) : Int × Int := ((part_ca a m).choose, (part_ca a m).choose_spec.choose)
theorem partF_ca (a m : Int) : isU64 (partF a m).1 ∧ ∀ (O : Out) (L : List Blk), CA Try.prog 46 [U a, U m, U 1000000] O L fun v L' => v = .tuple #[U (partF a m).1, I (partF a m).2] ∧ L' = L :=
  ⟨(part_ca a m).choose_spec.choose_spec.1.1, (part_ca a m).choose_spec.choose_spec.2⟩
theorem partF_none : partF 5 0 = (0, 0) := by
  have h := (part_ca 5 0).choose_spec.choose_spec.1.2 rfl rfl
  exact Prod.ext h.1 h.2
noncomputable def ofF (f : Int × Int) (a : Int) : Int × Int := if (partF a f.2).2 = 0 then addM f.1 (partF a f.2).1 else (0, (partF a f.2).2)
noncomputable def overF (f : Int × Int) (a : Int) : Int × Int := if (ofF f a).2 = 0 then addM a (ofF f a).1 else (0, (ofF f a).2)
theorem addM_range {a b : Int} (ha : isU64 a) (hb : isU64 b) : isU64 (addM a b).1 := by
  unfold isU64 addM at *
  split <;> simp <;> omega
theorem ofF_range {f : Int × Int} {a : Int} (hf : isU64 f.1) : isU64 (ofF f a).1 := by
  unfold ofF
  split
  · exact addM_range hf (partF_ca a f.2).1
  · show isU64 0; exact ⟨by decide, by decide⟩
theorem overF_range {f : Int × Int} {a : Int} (ha : isU64 a) (hf : isU64 f.1) : isU64 (overF f a).1 := by
  unfold overF
  split
  · exact addM_range ha (ofF_range hf)
  · show isU64 0; exact ⟨by decide, by decide⟩
theorem overF_ge {f : Int × Int} {a : Int} (hf : isU64 f.1) (h : (overF f a).2 = 0) : a ≤ (overF f a).1 := by
  have hr := (ofF_range (f := f) (a := a) hf).1
  unfold overF at *
  split at h
  · rename_i h1
    rw [if_pos h1]
    unfold addM at *
    split at h
    · rename_i h2; rw [if_pos h2]; simp; omega
    · simp at h
  · rename_i h1; exact absurd h h1

theorem of_ca (f : Int × Int) (a : Int) (hf : isU64 f.1) (O : Out) (L : List Blk) :
    CA Try.prog 39 [.agg #[U f.1, U f.2], U a] O L fun v L' => v = .tuple #[U (ofF f a).1, I (ofF f a).2] ∧ L' = L := by
  refine ca_enter Try.func39 rfl rfl ?_
  rw [Try.ntmps39]
  simp only [envOf]
  refine cg_seq ?_
  refine cg_region ?_
  refine rg_e (.inl rfl) rfl rfl (by exact ev_box rfl (by first | exact CellsOf.agg | exact CellsOf.one rfl)) ?_
  rintro _ _ ⟨b2, rfl, rfl⟩
  refine rg_q (.inl rfl) rfl rfl (by exact QW.qr (qw_assign rfl)) ?_
  refine rg_q (.inl rfl) rfl rfl (by exact QW.qr (qw_assign rfl)) ?_
  refine rg_nil ?_
  refine qg_then ?_
  refine cg_seq ?_
  refine cg_region ?_
  refine rg_q (.inl rfl) rfl rfl (by exact QW.qr (qw_move rfl)) ?_
  refine rg_q (.inl rfl) rfl rfl (by exact QW.qr (qw_fieldAddr rfl)) ?_
  refine rg_q (.inl rfl) rfl rfl (by exact qr_load1 rfl (by repeat (first | exact List.Mem.head _ | apply List.Mem.tail | apply List.mem_append_right | assumption)) rfl) ?_
  refine rg_e (.inl rfl) rfl rfl (by exact ev_call0 rfl (.cons rfl (.cons rfl (.cons rfl (.nil)))) ((partF_ca a f.2).2 O _)) ?_
  rintro _ _ ⟨rfl, rfl⟩
  refine rg_q (.inl rfl) rfl rfl (by exact QW.qr (qw_move rfl)) ?_
  refine rg_q (.inl rfl) rfl rfl (by exact QW.qr (qw_extract rfl rfl)) ?_
  refine rg_q (.inl rfl) rfl rfl (by exact QW.qr (qw_extract rfl rfl)) ?_
  refine rg_q (.inl rfl) rfl rfl (by exact QW.qr (qw_assign rfl)) ?_
  refine rg_q (.inl rfl) rfl rfl (by exact QW.qr (qw_assign rfl)) ?_
  refine rg_nil ?_
  refine qg_then ?_
  refine cg_seq ?_
  refine cg_seq ?_
  refine cg_region ?_
  refine rg_q (.inl rfl) rfl rfl (by exact QW.qr (qw_move rfl)) ?_
  refine rg_split (.inl rfl) rfl rfl (by exact qc_neq rfl rfl) ?_ ?_
  · intro hc
    have hv : ofF f a = (0, (partF a f.2).2) := by rw [ofF, if_neg hc]
    refine rg_nil ?_
    refine qg_then ?_
    refine cg_true rfl ?_
    refine cg_seq ?_
    refine cg_region ?_
    refine rg_q (.inl rfl) rfl rfl (by exact QW.qr (qw_move rfl)) ?_
    refine rg_q (.inl rfl) rfl rfl (by exact QW.qr (qw_assign rfl)) ?_
    refine rg_q (.inl rfl) rfl rfl (by exact QW.qr (qw_assign rfl)) ?_
    refine rg_nil ?_
    refine qg_then ?_
    refine cg_ret ?_
    refine qg_then_ret ?_
    exact qg_end (.inl rfl) _ (.cons (.tmp rfl) (.cons (.tmp rfl) (.nil))) _ (by repeat (first | exact List.Sublist.refl _ | exact List.nil_sublist _ | exact List.sublist_append_right _ _ | apply List.Sublist.cons_cons | apply List.Sublist.cons)) ⟨by rw [hv]; rfl, rfl⟩
  · intro hc
    have hv : ofF f a = addM f.1 (partF a f.2).1 := by rw [ofF, if_pos (by simpa using hc)]
    refine rg_nil ?_
    refine qg_then ?_
    refine cg_false rfl ?_
    refine cg_skip ?_
    refine qg_then ?_
    refine cg_seq ?_
    refine cg_region ?_
    refine rg_q (.inl rfl) rfl rfl (by exact QW.qr (qw_fieldAddr rfl)) ?_
    refine rg_q (.inl rfl) rfl rfl (by exact qr_load1 rfl (by repeat (first | exact List.Mem.head _ | apply List.Mem.tail | apply List.mem_append_right | assumption)) rfl) ?_
    refine rg_q (.inl rfl) rfl rfl (by exact QW.qr (qw_move rfl)) ?_
    refine rg_e (.inl rfl) rfl rfl (by exact ev_call0 rfl (.cons rfl (.cons rfl (.nil))) (add_ca f.1 (partF a f.2).1 hf (partF_ca a f.2).1 O _)) ?_
    rintro _ _ ⟨rfl, rfl⟩
    refine rg_q (.inl rfl) rfl rfl (by exact QW.qr (qw_extract rfl rfl)) ?_
    refine rg_q (.inl rfl) rfl rfl (by exact QW.qr (qw_extract rfl rfl)) ?_
    refine rg_q (.inl rfl) rfl rfl (by exact QW.qr (qw_assign rfl)) ?_
    refine rg_q (.inl rfl) rfl rfl (by exact QW.qr (qw_assign rfl)) ?_
    refine rg_nil ?_
    refine qg_then ?_
    refine cg_ret ?_
    exact qg_end (.inl rfl) _ (.cons (.tmp rfl) (.cons (.tmp rfl) (.nil))) _ (by repeat (first | exact List.Sublist.refl _ | exact List.nil_sublist _ | exact List.sublist_append_right _ _ | apply List.Sublist.cons_cons | apply List.Sublist.cons)) ⟨by rw [hv]; rfl, rfl⟩

theorem over_ca (f : Int × Int) (a : Int) (ha : isU64 a) (hf : isU64 f.1) (O : Out) (L : List Blk) :
    CA Try.prog 29 [.agg #[U f.1, U f.2], U a] O L fun v L' => v = .tuple #[U (overF f a).1, I (overF f a).2] ∧ L' = L := by
  refine ca_enter Try.func29 rfl rfl ?_
  rw [Try.ntmps29]
  simp only [envOf]
  refine cg_seq ?_
  refine cg_region ?_
  refine rg_e (.inl rfl) rfl rfl (by exact ev_box rfl (by first | exact CellsOf.agg | exact CellsOf.one rfl)) ?_
  rintro _ _ ⟨b2, rfl, rfl⟩
  refine rg_q (.inl rfl) rfl rfl (by exact QW.qr (qw_assign rfl)) ?_
  refine rg_q (.inl rfl) rfl rfl (by exact QW.qr (qw_assign rfl)) ?_
  refine rg_nil ?_
  refine qg_then ?_
  refine cg_seq ?_
  refine cg_region ?_
  refine rg_q (.inl rfl) rfl rfl (by exact qr_loadN rfl (by repeat (first | exact List.Mem.head _ | apply List.Mem.tail | apply List.mem_append_right | assumption)) (by repeat (first | exact SegL.done | apply SegL.take | apply SegL.skip))) ?_
  refine rg_q (.inl rfl) rfl rfl (by exact QW.qr (qw_move rfl)) ?_
  refine rg_e (.inl rfl) rfl rfl (by exact ev_call0 rfl (.cons rfl (.cons rfl (.nil))) (of_ca f a hf O _)) ?_
  rintro _ _ ⟨rfl, rfl⟩
  refine rg_q (.inl rfl) rfl rfl (by exact QW.qr (qw_move rfl)) ?_
  refine rg_q (.inl rfl) rfl rfl (by exact QW.qr (qw_extract rfl rfl)) ?_
  refine rg_q (.inl rfl) rfl rfl (by exact QW.qr (qw_extract rfl rfl)) ?_
  refine rg_q (.inl rfl) rfl rfl (by exact QW.qr (qw_assign rfl)) ?_
  refine rg_q (.inl rfl) rfl rfl (by exact QW.qr (qw_assign rfl)) ?_
  refine rg_nil ?_
  refine qg_then ?_
  refine cg_seq ?_
  refine cg_seq ?_
  refine cg_region ?_
  refine rg_q (.inl rfl) rfl rfl (by exact QW.qr (qw_move rfl)) ?_
  refine rg_split (.inl rfl) rfl rfl (by exact qc_neq rfl rfl) ?_ ?_
  · intro hc
    have hv : overF f a = (0, (ofF f a).2) := by rw [overF, if_neg hc]
    refine rg_nil ?_
    refine qg_then ?_
    refine cg_true rfl ?_
    refine cg_seq ?_
    refine cg_region ?_
    refine rg_q (.inl rfl) rfl rfl (by exact QW.qr (qw_move rfl)) ?_
    refine rg_q (.inl rfl) rfl rfl (by exact QW.qr (qw_assign rfl)) ?_
    refine rg_q (.inl rfl) rfl rfl (by exact QW.qr (qw_assign rfl)) ?_
    refine rg_nil ?_
    refine qg_then ?_
    refine cg_ret ?_
    refine qg_then_ret ?_
    exact qg_end (.inl rfl) _ (.cons (.tmp rfl) (.cons (.tmp rfl) (.nil))) _ (by repeat (first | exact List.Sublist.refl _ | exact List.nil_sublist _ | exact List.sublist_append_right _ _ | apply List.Sublist.cons_cons | apply List.Sublist.cons)) ⟨by rw [hv]; rfl, rfl⟩
  · intro hc
    have hv : overF f a = addM a (ofF f a).1 := by rw [overF, if_pos (by simpa using hc)]
    refine rg_nil ?_
    refine qg_then ?_
    refine cg_false rfl ?_
    refine cg_skip ?_
    refine qg_then ?_
    refine cg_seq ?_
    refine cg_region ?_
    refine rg_q (.inl rfl) rfl rfl (by exact QW.qr (qw_move rfl)) ?_
    refine rg_q (.inl rfl) rfl rfl (by exact QW.qr (qw_move rfl)) ?_
    refine rg_e (.inl rfl) rfl rfl (by exact ev_call0 rfl (.cons rfl (.cons rfl (.nil))) (add_ca a (ofF f a).1 ha (ofF_range hf) O _)) ?_
    rintro _ _ ⟨rfl, rfl⟩
    refine rg_q (.inl rfl) rfl rfl (by exact QW.qr (qw_extract rfl rfl)) ?_
    refine rg_q (.inl rfl) rfl rfl (by exact QW.qr (qw_extract rfl rfl)) ?_
    refine rg_q (.inl rfl) rfl rfl (by exact QW.qr (qw_assign rfl)) ?_
    refine rg_q (.inl rfl) rfl rfl (by exact QW.qr (qw_assign rfl)) ?_
    refine rg_nil ?_
    refine qg_then ?_
    refine cg_ret ?_
    exact qg_end (.inl rfl) _ (.cons (.tmp rfl) (.cons (.tmp rfl) (.nil))) _ (by repeat (first | exact List.Sublist.refl _ | exact List.nil_sublist _ | exact List.sublist_append_right _ _ | apply List.Sublist.cons_cons | apply List.Sublist.cons)) ⟨by rw [hv]; rfl, rfl⟩


/-- money.Back, from the last fee on: the amounts, or the error. -/
noncomputable def backF (a : Int) : List (Int × Int) → List Int × Int
  | [] => ([a], 0)
  | f :: fs => let r := backF a fs
    if r.2 = 0 then (if (overF f r.1.head!).2 = 0 then ((overF f r.1.head!).1 :: r.1, 0) else ([], (overF f r.1.head!).2)) else ([], r.2)
theorem backF_length {a : Int} : ∀ {fs : List (Int × Int)}, (backF a fs).2 = 0 → (backF a fs).1.length = fs.length + 1
  | [], _ => rfl
  | f :: fs, h => by
    simp only [backF] at h ⊢
    by_cases h1 : (backF a fs).2 = 0
    · have ih := backF_length h1
      rw [if_pos h1] at h ⊢
      by_cases h2 : (overF f (backF a fs).1.head!).2 = 0
      · rw [if_pos h2] at h ⊢; simp [ih]
      · rw [if_neg h2] at h; exact absurd h h2
    · rw [if_neg h1] at h; exact absurd h h1
/-- What stands behind the fees that are still to come. -/
theorem backF_fail {a : Int} : ∀ (pre fs : List (Int × Int)), (backF a fs).2 ≠ 0 → (backF a (pre ++ fs)) = ([], (backF a fs).2)
  | [], f :: fs, h => by
    simp only [List.nil_append, backF] at h ⊢
    by_cases h1 : (backF a fs).2 = 0
    · rw [if_pos h1] at h ⊢
      by_cases h2 : (overF f (backF a fs).1.head!).2 = 0
      · rw [if_pos h2] at h; exact absurd rfl h
      · rw [if_neg h2]
    · rw [if_neg h1]
  | [], [], h => absurd rfl h
  | p :: pre, fs, h => by
    have ih := backF_fail pre fs h
    simp only [List.cons_append, backF, ih]
    rw [if_neg h]
def goodFee (f : Int × Int) : Prop := isU64 f.1 ∧ isU64 f.2
theorem backF_range {a : Int} (ha : isU64 a) : ∀ {fs : List (Int × Int)}, (∀ f ∈ fs, goodFee f) → ∀ x ∈ (backF a fs).1, isU64 x
  | [], _, x, hx => by simp [backF] at hx; subst hx; exact ha
  | f :: fs, hf, x, hx => by
    simp only [backF] at hx
    have ih := backF_range ha (fs := fs) (fun g hg => hf g (List.mem_cons_of_mem _ hg))
    split at hx
    · split at hx
      · rename_i h1 h2
        rcases List.mem_cons.1 hx with rfl | hx
        · refine overF_range ?_ (hf f List.mem_cons_self).1
          have hl := backF_length h1
          cases hb : (backF a fs).1 with
          | nil => simp [hb] at hl
          | cons y ys => exact ih y (by simp [hb])
        · exact ih x hx
      · simp at hx
    · simp at hx

theorem back_ca (a : Int) (fees : List (Int × Int)) (s : Value) (ha : isU64 a) (hf : ∀ f ∈ fees, goodFee f) (hn : fees.length ≤ 1000) (O : Out) (L : List Blk) (hs : RdL L encFee 2 s fees) :
    CA Try.prog 34 [U a, s] O L fun v L' => (backF a fees).2 ≠ 0 ∧ v = .tuple #[.slice none 0 0, I (backF a fees).2] ∧ L' = L ∨
      (backF a fees).2 = 0 ∧ ∃ sv B, v = .tuple #[sv, I 0] ∧ L' = B ++ L ∧ RdL B encU 1 sv (backF a fees).1 := by
  obtain ⟨p, cap, rfl, hl, hcap, hsp, hR⟩ := hs
  refine ca_enter Try.func34 rfl rfl ?_
  rw [Try.ntmps34]
  simp only [envOf]
  refine cg_seq ?_
  refine cg_region ?_
  refine rg_q (.inl rfl) rfl rfl (by exact QW.qr (qw_assign rfl)) ?_
  refine rg_q (.inl rfl) rfl rfl (by exact QW.qr (qw_assign rfl)) ?_
  refine rg_nil ?_
  refine qg_then ?_
  refine cg_seq ?_
  refine cg_region ?_
  refine rg_q (.inl rfl) rfl rfl (by exact QW.qr (qw_move rfl)) ?_
  refine rg_q (.inl rfl) rfl rfl (by exact QW.qr (qw_len_slice (t := 96) (.cons rfl (.nil)) rfl)) ?_
  refine rg_q (.inl rfl) rfl rfl (by exact QW.qr (qw_add_in rfl rfl (by unfold inK; omega))) ?_
  refine rg_e (.inl rfl) rfl rfl (by exact ev_makeSlice rfl rfl rfl (by omega) (by omega) (by omega) (by omega)) ?_
  rintro _ _ ⟨b, rfl, rfl⟩
  refine rg_q (.inl rfl) rfl rfl (by exact QW.qr (qw_assign rfl)) ?_
  refine rg_nil ?_
  refine qg_then ?_
  refine cg_seq ?_
  refine cg_region ?_
  refine rg_q (.inl rfl) rfl rfl (by exact QW.qr (qw_move rfl)) ?_
  refine rg_q (.inl rfl) rfl rfl (by exact QW.qr (qw_move rfl)) ?_
  refine rg_q (.inl rfl) rfl rfl (by exact QW.qr (qw_len_slice (t := 96) (.cons rfl (.nil)) rfl)) ?_
  refine rg_q (.inl rfl) rfl rfl (by exact QW.qr (qw_move rfl)) ?_
  refine rg_q (.inl rfl) rfl rfl (by exact QW.qr (qw_indexAddr rfl rfl (by omega) (by omega))) ?_
  refine rg_e0 (.inl rfl) rfl (by exact ev_store' rfl rfl (by first | exact CellsOf.agg | exact CellsOf.one rfl) (by repeat (first | exact Upd.here | apply Upd.there | apply Upd.app)) (by first | (simp; done) | (simp; omega)) rfl (by first | exact Or.inl ⟨inferInstance, rfl⟩ | exact Or.inr inferInstance)) ?_
  rintro _ _ ⟨rfl, rfl⟩
  refine rg_nil ?_
  refine qg_then ?_
  refine cg_seq ?_
  refine cg_seq ?_
  refine cg_region ?_
  refine rg_q (.inl rfl) rfl rfl (by exact QW.qr (qw_move rfl)) ?_
  refine rg_q (.inl rfl) rfl rfl (by exact QW.qr (qw_len_slice (t := 96) (.cons rfl (.nil)) rfl)) ?_
  refine rg_q (.inl rfl) rfl rfl (by exact QW.qr (qw_sub_in rfl rfl (by unfold inK; omega))) ?_
  refine rg_q (.inl rfl) rfl rfl (by exact QW.qr (qw_assign rfl)) ?_
  refine rg_nil ?_
  refine qg_then ?_
  refine cg_block ?_
  refine cg_loop (fun E' L' m => ∃ (k : Nat) (A : Array Value), k ≤ fees.length ∧ A.size = fees.length + 1 ∧ (backF a (fees.drop k)).2 = 0 ∧ (∀ (j : Nat) (x : Int), (backF a (fees.drop k)).1[j]? = some x → A[k + j]? = some (U x)) ∧
    E' = [(1, .slice p fees.length cap), (6, .slice (some ⟨b, 0, none⟩) ((fees.length : Int) + 1).toNat ((fees.length : Int) + 1).toNat), (7, .int .i64 ((k : Int) - 1))] ∧ L' = (b, .cells A 26 (0, 0)) :: L ∧ m = k)
    _ _ _ ⟨fees.length, _, Nat.le_refl _, ?hsz, ?hb0, ?hb1, rfl, rfl, rfl⟩ (by repeat (first | exact Sub.nil | refine Sub.cons rfl ?_ | refine Sub.cons (congrArg (fun z => some (Value.int IntKind.i64 z)) (by omega)) ?_)) (List.Perm.refl _) ?_
  case hsz => rw [putAt_size]; simp
  case hb0 => rw [List.drop_length]; rfl
  case hb1 =>
    intro j x hj
    rw [List.drop_length] at hj
    cases j with
    | zero =>
      simp [backF] at hj
      subst hj
      rw [putAt_one]
      have : (0 + (fees.length : Int).toNat * 1) = fees.length := by omega
      rw [this]
      simp
    | succ j => simp [backF] at hj
  rintro _ _ _ ⟨k, A, hk, hsz, hb0, hb1, rfl, rfl, hmk⟩
  refine cg_seq ?_
  refine cg_seq ?_
  refine cg_region ?_
  refine rg_q (.inl rfl) rfl rfl (by exact QW.qr (qw_move rfl)) ?_
  refine rg_split (.inl rfl) rfl rfl (by exact qc_geq rfl rfl) ?_ ?_
  · intro hge
    obtain ⟨m, rfl⟩ : ∃ m, k = m + 1 := ⟨k - 1, by omega⟩
    have hmlt : m < fees.length := by omega
    obtain ⟨b0, o0, A0, t0, fz0, rfl, hm0, hseg⟩ := hR (by omega)
    have e1 : (((m + 1 : Nat) : Int) - 1).toNat = m := by omega
    have e1' : 0 + (((m + 1 : Nat) : Int) - 1).toNat * 1 = m := by omega
    have hfe : Seg A0 (o0 + (((m + 1 : Nat) : Int) - 1).toNat * 2) (encFee fees[m]) := by rw [e1]; exact hseg.elem (enc := encFee) (k := 2) (fun _ => rfl) hmlt
    have hlen := backF_length hb0
    obtain ⟨y, ys, hys⟩ : ∃ y ys, (backF a (fees.drop (m + 1))).1 = y :: ys := by
      cases h : (backF a (fees.drop (m + 1))).1 with
      | nil => rw [h] at hlen; simp at hlen
      | cons y ys => exact ⟨y, ys, rfl⟩
    have hy : A[0 + (((m + 1 : Nat) : Int) - 1 + 1).toNat * 1]? = some (U y) := by
      have := hb1 0 y (by rw [hys]; rfl)
      rw [← this]; congr 1; omega
    have hyr : isU64 y := backF_range ha (fun f hf' => hf f (List.mem_of_mem_drop hf')) y (by rw [hys]; exact List.mem_cons_self)
    have hgf := hf fees[m] (List.getElem_mem hmlt)
    have hdrop : fees.drop m = fees[m] :: fees.drop (m + 1) := List.drop_eq_getElem_cons hmlt
    refine rg_nil ?_
    refine qg_then ?_
    refine cg_true rfl ?_
    refine cg_skip ?_
    refine qg_then ?_
    refine cg_seq ?_
    refine cg_block ?_
    refine cg_seq ?_
    refine cg_region ?_
    refine rg_q (.inl rfl) rfl rfl (by exact QW.qr (qw_assign rfl)) ?_
    refine rg_nil ?_
    refine qg_then ?_
    refine cg_seq ?_
    refine cg_draw follows (.op 0 false (.op 1 false (.op 2 false (.op 3 false (.op 4 false (.op 5 false (.op 6 false (.op 7 false (.op 8 false (.op 9 false (.op 10 false (.op 11 false (.op 12 false (.op 13 false (.op 14 false (.op 15 false (.op 16 false (.op 17 false .done)))))))))))))))))) _ (by kernel_rfl) (SubP.of (List.Sublist.refl _)) ?_
    refine dg_w rfl rfl (.inl rfl) rfl rfl (by exact qw_move rfl) ?_
    refine dg_w rfl rfl (.inl rfl) rfl rfl (by exact qw_move rfl) ?_
    refine dg_w rfl rfl (.inl rfl) rfl rfl (by exact qw_move rfl) ?_
    refine dg_w rfl rfl (.inl rfl) rfl rfl (by exact qw_move rfl) ?_
    refine dg_w rfl rfl (.inl rfl) rfl rfl (by exact qw_indexAddr rfl rfl (by omega) (by omega)) ?_
    refine dg_r rfl rfl rfl (.inl rfl) rfl rfl (by exact qr_loadS rfl (List.mem_cons_of_mem _ hm0) hfe rfl) ?_
    refine dg_w rfl rfl (.inl rfl) rfl rfl (by exact qw_move rfl) ?_
    refine dg_w rfl rfl (.inl rfl) rfl rfl (by exact qw_move rfl) ?_
    refine dg_w rfl rfl (.inl rfl) rfl rfl (by exact qw_add_in rfl rfl (by unfold inK; omega)) ?_
    refine dg_w rfl rfl (.inl rfl) rfl rfl (by exact qw_indexAddr rfl rfl (by omega) (by omega)) ?_
    refine dg_r rfl rfl rfl (.inl rfl) rfl rfl (by exact qr_load1' rfl (List.Mem.head _) hy) ?_
    refine dg_g rfl rfl (.inl rfl) rfl rfl (by exact ev_call0 rfl (.cons rfl (.cons rfl (.nil))) (over_ca fees[m] y hyr hgf.1 O _)) ?_
    rintro _ _ ⟨rfl, rfl⟩
    refine dg_w rfl rfl (.inl rfl) rfl rfl (by exact qw_move rfl) ?_
    refine dg_w rfl rfl (.inl rfl) rfl rfl (by exact qw_extract rfl rfl) ?_
    refine dg_w rfl rfl (.inl rfl) rfl rfl (by exact qw_extract rfl rfl) ?_
    refine dg_w rfl rfl (.inl rfl) rfl rfl (by exact qw_indexAddr rfl rfl (by omega) (by omega)) ?_
    refine dg_g0 rfl rfl (.inl rfl) rfl (by exact ev_store' rfl rfl (by first | exact CellsOf.agg | exact CellsOf.one rfl) (by repeat (first | exact Upd.here | apply Upd.there | apply Upd.app)) (by first | (simp; done) | (simp; omega)) rfl (by first | exact Or.inl ⟨inferInstance, rfl⟩ | exact Or.inr inferInstance)) ?_
    rintro _ _ ⟨rfl, rfl⟩
    refine dg_w rfl rfl (.inl rfl) rfl rfl (by exact qw_assign rfl) ?_
    refine dg_nil ?_
    refine qg_then ?_
    refine cg_seq ?_
    refine cg_region ?_
    refine rg_q (.inl rfl) rfl rfl (by exact QW.qr (qw_move rfl)) ?_
    refine rg_split (.inl rfl) rfl rfl (by exact qc_neq rfl rfl) ?_ ?_
    · intro hc
      have hval : backF a (fees[m] :: fees.drop (m + 1)) = ([], (overF fees[m] y).2) := by simp only [backF]; rw [if_pos hb0, hys]; exact if_neg hc
      refine rg_nil ?_
      refine qg_then ?_
      refine cg_true rfl ?_
      refine cg_seq ?_
      refine cg_region ?_
      refine rg_q (.inl rfl) rfl rfl (by exact QW.qr (qw_move rfl)) ?_
      refine rg_q (.inl rfl) rfl rfl (by exact QW.qr (qw_assign rfl)) ?_
      refine rg_q (.inl rfl) rfl rfl (by exact QW.qr (qw_assign rfl)) ?_
      refine rg_nil ?_
      refine qg_then ?_
      refine cg_ret ?_
      refine qg_block_ret ?_
      refine qg_then_ret ?_
      refine qg_then_ret ?_
      refine qg_block_ret ?_
      refine qg_then_ret ?_
      have hfin : backF a fees = ([], (overF fees[m] y).2) := by
        have := backF_fail (a := a) (fees.take m) (fees[m] :: fees.drop (m + 1)) (by rw [hval]; exact hc)
        rw [← hdrop, List.take_append_drop, hdrop, hval] at this
        exact this
      exact qg_end (.inl rfl) _ (.cons (.tmp rfl) (.cons (.tmp rfl) (.nil))) _ (by repeat (first | exact List.Sublist.refl _ | exact List.nil_sublist _ | exact List.sublist_append_right _ _ | apply List.Sublist.cons_cons | apply List.Sublist.cons)) (Or.inl ⟨by rw [hfin]; exact hc, by rw [hfin]; rfl, rfl⟩)
    · intro hc
      have hval : backF a (fees[m] :: fees.drop (m + 1)) = ((overF fees[m] y).1 :: (backF a (fees.drop (m + 1))).1, 0) := by simp only [backF]; rw [if_pos hb0, hys]; exact if_pos (Decidable.not_not.1 hc)
      refine rg_nil ?_
      refine qg_then ?_
      refine cg_false rfl ?_
      refine cg_skip ?_
      refine qg_block ?_
      refine qg_then ?_
      refine cg_region ?_
      refine rg_q (.inl rfl) rfl rfl (by exact QW.qr (qw_move rfl)) ?_
      refine rg_q (.inl rfl) rfl rfl (by exact QW.qr (qw_sub_in rfl rfl (by unfold inK; omega))) ?_
      refine rg_q (.inl rfl) rfl rfl (by exact QW.qr (qw_assign rfl)) ?_
      refine rg_nil ?_
      refine qg_round _ _ _ ⟨m, _, by omega, ?hsz, ?hb0, ?hb1, rfl, rfl, rfl⟩ (by repeat (first | exact Sub.nil | refine Sub.cons rfl ?_ | refine Sub.cons (congrArg (fun z => some (Value.int IntKind.i64 z)) (by omega)) ?_)) (List.Perm.refl _) (by omega)
      case hsz => rw [putAt_size]; exact hsz
      case hb0 => rw [hdrop, hval]
      case hb1 =>
        intro j x hj
        rw [hdrop, hval] at hj
        rw [putAt_one, e1']
        cases j with
        | zero =>
          simp at hj
          subst hj
          have hlt : m < A.size := by omega
          first | (simp [hlt]; done) | (simp [hlt]; rfl)
        | succ j =>
          have h3 := hb1 j x (by simpa using hj)
          rw [Array.getElem?_setIfInBounds_ne (by omega), ← h3]
          congr 1
          omega
  · intro hge
    obtain rfl : k = 0 := by omega
    refine rg_nil ?_
    refine qg_then ?_
    refine cg_false rfl ?_
    refine cg_exit ?_
    refine qg_then_exit ?_
    refine qg_then_exit ?_
    refine qg_block_here ?_
    refine qg_then ?_
    refine cg_seq ?_
    refine cg_region ?_
    refine rg_q (.inl rfl) rfl rfl (by exact QW.qr (qw_move rfl)) ?_
    refine rg_q (.inl rfl) rfl rfl (by exact QW.qr (qw_assign rfl)) ?_
    refine rg_q (.inl rfl) rfl rfl (by exact QW.qr (qw_assign rfl)) ?_
    refine rg_nil ?_
    refine qg_then ?_
    refine cg_ret ?_
    rw [List.drop_zero] at hb0 hb1
    have hlen := backF_length hb0
    refine qg_end (.inl rfl) _ (.cons (.tmp rfl) (.cons (.tmp rfl) (.nil))) _ (List.Sublist.refl _) (Or.inr ⟨hb0, _, [(b, .cells A 26 (0, 0))], rfl, rfl, some ⟨b, 0, none⟩, ((fees.length : Int) + 1).toNat, ?_, ?_, ?_, ?_, ?_⟩)
    · congr 1; omega
    · rw [flat_length (k := 1) (fun _ => rfl)]
    · omega
    · exact ⟨fun q hq => by cases hq; rfl, fun h => by cases h⟩
    · intro _
      refine ⟨b, 0, A, 26, (0, 0), rfl, List.mem_cons_self, fun j hj => ?_⟩
      rw [show encU = fun x => [U x] from rfl, flat_one] at hj ⊢
      simp only [List.length_map] at hj
      rw [List.getElem?_map, List.getElem?_eq_getElem hj]
      have := hb1 j _ (List.getElem?_eq_getElem hj)
      simpa using this

end Go.Proofs.Ytjimpciiaceleaa