/-
  THE WALKS of slices.Clone and path.fill. Conditions: sizes; the way is one over channels that are there.
-/
import Derived.Test.YtjimpciiaceleaaA6
namespace Go.Proofs.Ytjimpciiaceleaa
open Fw
set_option linter.unusedVariables false
set_option maxRecDepth 100000

theorem encI_one : ∀ (x : Int), ∀ v ∈ encI x, v.oneCell' = true := by
  intro x v hv
  simp only [encI, List.mem_cons, List.not_mem_nil, or_false] at hv
  subst hv; rfl
theorem encFee_one : ∀ (x : Int × Int), ∀ v ∈ encFee x, v.oneCell' = true := by
  intro x v hv
  simp only [encFee, List.mem_cons, List.not_mem_nil, or_false] at hv
  rcases hv with rfl | rfl <;> rfl
theorem encE_one : ∀ (x : Edge), ∀ v ∈ encE x, v.oneCell' = true := by
  intro x v hv
  simp only [encE, List.mem_cons, List.not_mem_nil, or_false] at hv
  rcases hv with rfl | rfl | rfl | rfl | rfl | rfl | rfl | rfl <;> rfl
theorem tail_take {α : Type} (l : List α) (k : Nat) (hk : k < l.length) : (l.take (k + 1)).tail = (l.take k).tail ++ (if 0 < k then [l[k]] else []) := by
  cases l with
  | nil => simp at hk
  | cons x l =>
    cases k with
    | zero => simp
    | succ k =>
      simp only [List.take_succ_cons, List.tail_cons, Nat.succ_pos, if_true, List.getElem_cons_succ]
      rw [List.take_succ_eq_append_getElem (by simpa using hk)]
def edgeAt (es : List Edge) (x : Int) : Edge := (es[x.toNat]?).getD ⟨0, 0, 0, 0, (0, 0), (0, 0)⟩
def canOf (es : List Edge) (h : Int × Int) : Int := canAt (edgeAt es h.2) (sideOf (edgeAt es h.2) h.1).toNat
def feeOf (es : List Edge) (h : Int × Int) : Int × Int := feeAt (edgeAt es h.2) (sideOf (edgeAt es h.2) h.1).toNat
/-- A hop (node, channel) that is there. -/
def hopOk (es : List Edge) (h : Int × Int) : Prop := 0 ≤ h.2 ∧ h.2.toNat < es.length ∧ (sideOf (edgeAt es h.2) h.1 = 0 ∨ sideOf (edgeAt es h.2) h.1 = 1)
def goodEdge (e : Edge) : Prop := isU64 e.c0 ∧ isU64 e.c1 ∧ goodFee e.f0 ∧ goodFee e.f1
def feesOf (es : List Edge) (nodes edges : List Int) : List (Int × Int) := (nodes.zip edges).tail.map (feeOf es)
/-- path.fill: the amounts. -/
noncomputable def fillF (es : List Edge) (nodes edges : List Int) (a : Int) : Option (List Int) :=
  if (backF a (feesOf es nodes edges)).2 = 0 then
    (if ∀ p ∈ (nodes.zip edges).zip (backF a (feesOf es nodes edges)).1, p.2 ≤ canOf es p.1 then some (backF a (feesOf es nodes edges)).1 else none)
  else none
theorem feeOf_good {es : List Edge} (hg : ∀ e ∈ es, goodEdge e) (h : Int × Int) (hh : hopOk es h) : goodFee (feeOf es h) := by
  obtain ⟨h1, h2, h3⟩ := hh
  have : edgeAt es h.2 = es[h.2.toNat] := by unfold edgeAt; rw [List.getElem?_eq_getElem h2]; rfl
  have hge := hg _ (List.getElem_mem h2)
  unfold feeOf feeAt
  rw [this]
  split
  · exact hge.2.2.1
  · exact hge.2.2.2

theorem cloneI_nil (O : Out) (L : List Blk) :
    CA Try.prog 35 [.slice none 0 0] O L fun v L' => v = .slice none 0 0 ∧ L' = L := by
  refine ca_enter Try.func35 rfl rfl ?_
  rw [Try.ntmps35]
  simp only [envOf]
  refine cg_seq ?_
  refine cg_region ?_
  refine rg_q (.inl rfl) rfl rfl (by exact QW.qr (qw_assign rfl)) ?_
  refine rg_nil ?_
  refine qg_then ?_
  refine cg_seq ?_
  refine cg_seq ?_
  refine cg_region ?_
  refine rg_q (.inl rfl) rfl rfl (by exact QW.qr (qw_move rfl)) ?_
  refine rg_q (.inl rfl) rfl rfl (by exact QW.qr (qw_val (v' := .bool true) (qw_eql_slice_nil rfl rfl) rfl)) ?_
  refine rg_nil ?_
  refine qg_then ?_
  refine cg_true rfl ?_
  refine cg_seq ?_
  refine cg_region ?_
  refine rg_q (.inl rfl) rfl rfl (by exact QW.qr (qw_assign rfl)) ?_
  refine rg_nil ?_
  refine qg_then ?_
  refine cg_ret ?_
  refine qg_then_ret ?_
  exact qg_end (.inl rfl) _ (.cons (.tmp rfl) (.nil)) _ (by repeat (first | exact List.Sublist.refl _ | exact List.nil_sublist _ | exact List.sublist_append_right _ _ | apply List.Sublist.cons_cons | apply List.Sublist.cons)) ⟨rfl, rfl⟩

theorem cloneI_some (xs : List Int) (q : Addr) (cap : Nat) (O : Out) (L : List Blk) (hs : RdL L encI 1 (.slice (some q) xs.length cap) xs) (hsz : xs.length ≤ 1000000) :
    CA Try.prog 35 [.slice (some q) xs.length cap] O L fun v L' => ∃ B, OwnL 3 encI 1 v xs B ∧ L' = B ++ L := by
  refine ca_enter Try.func35 rfl rfl ?_
  rw [Try.ntmps35]
  simp only [envOf]
  refine cg_seq ?_
  refine cg_region ?_
  refine rg_q (.inl rfl) rfl rfl (by exact QW.qr (qw_assign rfl)) ?_
  refine rg_nil ?_
  refine qg_then ?_
  refine cg_seq ?_
  refine cg_seq ?_
  refine cg_region ?_
  refine rg_q (.inl rfl) rfl rfl (by exact QW.qr (qw_move rfl)) ?_
  refine rg_q (.inl rfl) rfl rfl (by exact QW.qr (qw_val (v' := .bool false) (qw_eql_slice_nil rfl rfl) rfl)) ?_
  refine rg_nil ?_
  refine qg_then ?_
  refine cg_false rfl ?_
  refine cg_skip ?_
  refine qg_then ?_
  refine cg_seq ?_
  refine cg_region ?_
  refine rg_e (.inl rfl) rfl rfl (by exact ev_buildSlice (.nil) rfl (by first | exact CellsOf.agg | exact CellsOf.one rfl) (by rfl) (.nil)) ?_
  rintro _ _ ⟨b5, rfl, rfl⟩
  refine rg_q (.inl rfl) rfl rfl (by exact QW.qr (qw_move rfl)) ?_
  refine rg_e (.inl rfl) rfl rfl (by exact ev_appendL (xs := []) (ys := xs) (T := 38) (T2 := 38) (.cons rfl (.cons rfl .nil)) rfl rfl (B := [_]) (R := L) OwnS.empty (List.Perm.refl _) hs.src (fun _ => rfl) encI_one (by simpa using hsz) rfl rfl rfl rfl) ?_
  rintro ov' _ ⟨B', hown', rfl⟩
  refine rg_q (.inl rfl) rfl rfl (by exact QW.qr (qw_assign rfl)) ?_
  refine rg_nil ?_
  refine qg_then ?_
  refine cg_ret ?_
  exact qg_end (.inl rfl) _ (.cons (.tmp rfl) (.nil)) _ (by repeat (first | exact List.Sublist.refl _ | exact List.nil_sublist _ | exact List.sublist_append_right _ _ | apply List.Sublist.cons_cons | apply List.Sublist.cons)) ⟨_, hown', rfl⟩

theorem cloneI_ca (xs : List Int) (s : Value) (O : Out) (L : List Blk) (hs : RdL L encI 1 s xs) (hsz : xs.length ≤ 1000000) :
    CA Try.prog 35 [s] O L fun v L' => ∃ B, OwnL 3 encI 1 v xs B ∧ L' = B ++ L := by
  obtain ⟨p, cap, rfl, hl, hcap, hsp, hR⟩ := id hs
  cases p with
  | some q => exact cloneI_some xs q cap O L hs hsz
  | none =>
    have h0 : xs.length = 0 := Decidable.byContradiction fun h => by
      obtain ⟨b, o, A, t, fz, h1, _⟩ := hR h
      cases h1
    have hx : xs = [] := List.eq_nil_of_length_eq_zero h0
    have hc : cap = 0 ∨ cap ≠ 0 := by omega
    subst hx
    rcases hc with rfl | hc
    · exact (cloneI_nil O L).mono fun v L' ⟨h1, h2⟩ => ⟨[], by rw [h1]; exact OwnL.nil, h2⟩
    · exact absurd (hsp.2 rfl) hc

end Go.Proofs.Ytjimpciiaceleaa