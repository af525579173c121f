/-
  THE WALKS of the node's calls at a nil node, and at one without channels. No condition.
-/
import Derived.Test.YthmicniimofagaaGreatB10
import Derived.Test.YthmicniimofagaaGreatC0
namespace Go.Proofs.YthmicniimofagaaGreat
open Fw
open Go.Proofs (encStr)
set_option linter.unusedVariables false
set_option linter.unusedSimpArgs false
set_option maxRecDepth 100000
set_option maxHeartbeats 1000000

theorem namesOf_nil {α : Type} : namesOf ([] : List (Bytes × α)) = [] := by simp [namesOf]
def firstB : Bytes := recF 1 [] (numF 1 4) ++ recF 4 [] []
theorem compactNew (a life d : Int) : compactB ⟨a, life, [], d⟩ = recF 1 [] (numF (life + 1) 4) ++ recF 4 [] [] := by
  unfold compactB entriesF
  simp [namesOf_nil]
theorem newOpen : openS newS newS = (⟨0, 1, [], 0⟩, ⟨firstB, [], 3, -1, false⟩, newS, 0) := by
  rw [openS, if_neg (by decide)]
  rw [show (pickK newS newS 2).2 = ⟨1, 0, [], 0⟩ from rfl]
  unfold compact2 compactL
  simp only [compactNew]
  rfl
/-- The zero of a deed, not looked into. -/
def zerosOf (i : TypeInfo) : List Value := match i.zero with
  | some (.agg a) => a.toList
  | _ => []
noncomputable def deedZ : List Value := zerosOf Tryz.t62
theorem deedZ_len : deedZ.length = 2059 := by kernel_rfl
theorem deedZ_ne : deedZ.isEmpty = false := by kernel_rfl
theorem deedZ_one : (deedZ.all (·.oneCell')) = true := by kernel_rfl
instance deedZ_zero : TZero Tryz.prog 62 (.agg deedZ.toArray) := ⟨by kernel_rfl⟩
theorem deedZ_agg : TAgg Tryz.prog 62 deedZ.length := by rw [deedZ_len]; infer_instance
attribute [irreducible] deedZ
theorem SetSeg.all : ∀ {l vs : List Value}, l.length = vs.length → SetSeg l 0 vs vs
  | [], [], _ => .done
  | _ :: l, v :: vs, h => .take (SetSeg.all (by simpa using h))
theorem Seg.all (vs : List Value) : Seg vs.toArray 0 vs := fun j _ => by rw [Nat.zero_add, List.getElem?_toArray]

theorem nUp_nil (O : Out) (L : List Blk) : CA Tryz.prog 31 [.pointer none] O L fun v L' => v = I 2 ∧ L' = L := by
  refine ca_enter Tryz.func31 rfl rfl ?_
  rw [Tryz.ntmps31]
  simp only [envOf]
  refine cg_seq ?_
  refine cg_region ?_
  refine rg_q (.inl rfl) rfl rfl (by exact QW.qr (qw_assign rfl)) ?_
  refine rg_nil ?_
  refine qg_then ?_
  refine cg_seq ?_
  refine cg_seq ?_
  refine cg_region ?_
  refine rg_q (.inl rfl) rfl rfl (by exact QW.qr (qw_move rfl)) ?_
  refine rg_q (.inl rfl) rfl rfl (by exact QW.qr (qw_eql_nil (e := 113) rfl rfl)) ?_
  refine rg_nil ?_
  refine qg_then ?_
  refine cg_true rfl ?_
  refine cg_seq ?_
  refine cg_region ?_
  refine rg_q (.inl rfl) rfl rfl (by exact QW.qr (qw_assign rfl)) ?_
  refine rg_nil ?_
  refine qg_then ?_
  refine cg_ret ?_
  refine qg_then_ret ?_
  exact qg_end (.inl rfl) _ (.cons (.tmp rfl) (.nil)) _ (by repeat (first | exact List.Sublist.refl _ | exact List.nil_sublist _ | exact List.sublist_append_right _ _ | apply List.Sublist.cons_cons | apply List.Sublist.cons | refine List.Sublist.trans ?_ (List.sublist_append_right _ _))) ⟨rfl, rfl⟩

theorem tick_nil (O : Out) (L : List Blk) : CA Tryz.prog 12 [.pointer none, .pointer none] O L fun v L' => v = .tuple #[.slice none 0 0, .slice none 0 0, I 2] ∧ L' = L := by
  refine ca_enter Tryz.func12 rfl rfl ?_
  rw [Tryz.ntmps12]
  simp only [envOf]
  refine cg_seq ?_
  refine cg_region ?_
  refine rg_q (.inl rfl) rfl rfl (by exact QW.qr (qw_assign rfl)) ?_
  refine rg_q (.inl rfl) rfl rfl (by exact QW.qr (qw_assign rfl)) ?_
  refine rg_q (.inl rfl) rfl rfl (by exact QW.qr (qw_assign rfl)) ?_
  refine rg_nil ?_
  refine qg_then ?_
  refine cg_seq ?_
  refine cg_seq ?_
  refine cg_region ?_
  refine rg_q (.inl rfl) rfl rfl (by exact QW.qr (qw_move rfl)) ?_
  refine rg_e (.inl rfl) rfl rfl (by exact ev_call0 rfl (.cons rfl (.nil)) (nUp_nil O _)) ?_
  rintro _ _ ⟨rfl, rfl⟩
  refine rg_q (.inl rfl) rfl rfl (by exact QW.qr (qw_assign rfl)) ?_
  refine rg_nil ?_
  refine qg_then ?_
  refine cg_seq ?_
  refine cg_region ?_
  refine rg_q (.inl rfl) rfl rfl (by exact QW.qr (qw_move rfl)) ?_
  refine rg_q (.inl rfl) rfl rfl (by exact QW.qr (qw_neq_t rfl rfl (by decide))) ?_
  refine rg_nil ?_
  refine qg_then ?_
  refine cg_true rfl ?_
  refine cg_seq ?_
  refine cg_region ?_
  refine rg_q (.inl rfl) rfl rfl (by exact QW.qr (qw_move rfl)) ?_
  refine rg_q (.inl rfl) rfl rfl (by exact QW.qr (qw_assign rfl)) ?_
  refine rg_q (.inl rfl) rfl rfl (by exact QW.qr (qw_assign rfl)) ?_
  refine rg_q (.inl rfl) rfl rfl (by exact QW.qr (qw_assign rfl)) ?_
  refine rg_nil ?_
  refine qg_then ?_
  refine cg_ret ?_
  refine qg_then_ret ?_
  exact qg_end (.inl rfl) _ (.cons (.tmp rfl) (.cons (.tmp rfl) (.cons (.tmp rfl) (.nil)))) _ (by repeat (first | exact List.Sublist.refl _ | exact List.nil_sublist _ | exact List.sublist_append_right _ _ | apply List.Sublist.cons_cons | apply List.Sublist.cons | refine List.Sublist.trans ?_ (List.sublist_append_right _ _))) ⟨rfl, rfl⟩

theorem hear_nil (pv : Value) (O : Out) (L : List Blk) : CA Tryz.prog 13 [.pointer none, .pointer none, I 0, pv] O L fun v L' => v = .tuple #[.slice none 0 0, I 2] ∧ L' = L := by
  refine ca_enter Tryz.func13 rfl rfl ?_
  rw [Tryz.ntmps13]
  simp only [envOf]
  refine cg_seq ?_
  refine cg_region ?_
  refine rg_q (.inl rfl) rfl rfl (by exact QW.qr (qw_assign rfl)) ?_
  refine rg_q (.inl rfl) rfl rfl (by exact QW.qr (qw_assign rfl)) ?_
  refine rg_nil ?_
  refine qg_then ?_
  refine cg_seq ?_
  refine cg_seq ?_
  refine cg_region ?_
  refine rg_q (.inl rfl) rfl rfl (by exact QW.qr (qw_move rfl)) ?_
  refine rg_e (.inl rfl) rfl rfl (by exact ev_call0 rfl (.cons rfl (.nil)) (nUp_nil O _)) ?_
  rintro _ _ ⟨rfl, rfl⟩
  refine rg_q (.inl rfl) rfl rfl (by exact QW.qr (qw_assign rfl)) ?_
  refine rg_nil ?_
  refine qg_then ?_
  refine cg_seq ?_
  refine cg_region ?_
  refine rg_q (.inl rfl) rfl rfl (by exact QW.qr (qw_move rfl)) ?_
  refine rg_q (.inl rfl) rfl rfl (by exact QW.qr (qw_neq_t rfl rfl (by decide))) ?_
  refine rg_nil ?_
  refine qg_then ?_
  refine cg_true rfl ?_
  refine cg_seq ?_
  refine cg_region ?_
  refine rg_q (.inl rfl) rfl rfl (by exact QW.qr (qw_move rfl)) ?_
  refine rg_q (.inl rfl) rfl rfl (by exact QW.qr (qw_assign rfl)) ?_
  refine rg_q (.inl rfl) rfl rfl (by exact QW.qr (qw_assign rfl)) ?_
  refine rg_nil ?_
  refine qg_then ?_
  refine cg_ret ?_
  refine qg_then_ret ?_
  exact qg_end (.inl rfl) _ (.cons (.tmp rfl) (.cons (.tmp rfl) (.nil))) _ (by repeat (first | exact List.Sublist.refl _ | exact List.nil_sublist _ | exact List.sublist_append_right _ _ | apply List.Sublist.cons_cons | apply List.Sublist.cons | refine List.Sublist.trans ?_ (List.sublist_append_right _ _))) ⟨rfl, rfl⟩

theorem look_nil (iv : Value) (O : Out) (L : List Blk) : CA Tryz.prog 14 [.pointer none, iv] O L fun v L' => v = .tuple #[.agg deedZ.toArray, .int .u64 0, I 0, .bool false] ∧ L' = L := by
  refine ca_enter Tryz.func14 rfl rfl ?_
  rw [Tryz.ntmps14]
  simp only [envOf]
  refine cg_seq ?_
  refine cg_region ?_
  refine rg_e (.inl rfl) rfl rfl (by exact ev_alloc (by first | exact CellsOf.agg | exact CellsOf.one rfl)) ?_
  rintro _ _ ⟨b4, rfl, rfl⟩
  refine rg_q (.inl rfl) rfl rfl (by exact QW.qr (qw_assign rfl)) ?_
  refine rg_q (.inl rfl) rfl rfl (by exact QW.qr (qw_assign rfl)) ?_
  refine rg_q (.inl rfl) rfl rfl (by exact QW.qr (qw_assign rfl)) ?_
  refine rg_nil ?_
  refine qg_then ?_
  refine cg_seq ?_
  refine cg_seq ?_
  refine cg_region ?_
  refine rg_q (.inl rfl) rfl rfl (by exact QW.qr (qw_move rfl)) ?_
  refine rg_q (.inl rfl) rfl rfl (by exact QW.qr (qw_eql_nil (e := 113) rfl rfl)) ?_
  refine rg_q (.inl rfl) rfl rfl (by exact QW.qr (qw_move rfl)) ?_
  refine rg_s (guard_mk rfl rfl rfl rfl) rfl rfl ?_
  refine rg_s (guard_mk rfl rfl rfl rfl) rfl rfl ?_
  refine rg_s (guard_mk rfl rfl rfl rfl) rfl rfl ?_
  refine rg_s (guard_mk rfl rfl rfl rfl) rfl rfl ?_
  refine rg_s (guard_mk rfl rfl rfl rfl) rfl rfl ?_
  refine rg_s (guard_mk rfl rfl rfl rfl) rfl rfl ?_
  refine rg_s (guard_mk rfl rfl rfl rfl) rfl rfl ?_
  refine rg_q (.inl rfl) rfl rfl (by exact QW.qr (qw_pick_t rfl rfl)) ?_
  refine rg_nil ?_
  refine qg_then ?_
  refine cg_true rfl ?_
  refine cg_seq ?_
  refine cg_region ?_
  refine rg_q (.inl rfl) rfl rfl (by exact QW.qr (qw_build .nil rfl .nil)) ?_
  refine rg_e0 (.inl rfl) rfl (by exact ev_store rfl rfl .agg (by repeat (first | exact List.Mem.head _ | apply List.Mem.tail | apply List.mem_append_right | assumption)) (SetSeg.all rfl) deedZ_ne deedZ_one (by repeat (first | exact Upd.here | apply Upd.there | apply Upd.app)) (.inr deedZ_agg)) ?_
  rintro _ _ ⟨rfl, rfl⟩
  refine rg_q (.inl rfl) rfl rfl (by exact QW.qr (qw_assign rfl)) ?_
  refine rg_q (.inl rfl) rfl rfl (by exact QW.qr (qw_assign rfl)) ?_
  refine rg_q (.inl rfl) rfl rfl (by exact QW.qr (qw_assign rfl)) ?_
  refine rg_nil ?_
  refine qg_then ?_
  refine cg_ret ?_
  refine qg_then_ret ?_
  exact qg_end (.inl rfl) _ (.cons (.cell rfl fun _ hh => loadSeg (sz := 2059) (by repeat (first | exact List.Mem.head _ | apply List.Mem.tail | apply List.mem_append_right | assumption)) (by exact Seg.all _) deedZ_len hh) (.cons (.tmp rfl) (.cons (.tmp rfl) (.cons (.tmp rfl) .nil)))) _ (by repeat (first | exact List.Sublist.refl _ | exact List.nil_sublist _ | exact List.sublist_append_right _ _ | apply List.Sublist.cons_cons | apply List.Sublist.cons | refine List.Sublist.trans ?_ (List.sublist_append_right _ _))) ⟨rfl, rfl⟩

theorem learn_nil (sl : List Value) (O : Out) (L : List Blk) : CA Tryz.prog 15 [.pointer none, .agg sl.toArray] O L fun v L' => v = I 2 ∧ L' = L := by
  refine ca_enter Tryz.func15 rfl rfl ?_
  rw [Tryz.ntmps15]
  simp only [envOf]
  refine cg_seq ?_
  refine cg_region ?_
  refine rg_e (.inl rfl) rfl rfl (by exact ev_box rfl (by first | exact CellsOf.agg | exact CellsOf.one rfl)) ?_
  rintro _ _ ⟨b3, rfl, rfl⟩
  refine rg_q (.inl rfl) rfl rfl (by exact QW.qr (qw_assign rfl)) ?_
  refine rg_nil ?_
  refine qg_then ?_
  refine cg_seq ?_
  refine cg_seq ?_
  refine cg_region ?_
  refine rg_q (.inl rfl) rfl rfl (by exact QW.qr (qw_move rfl)) ?_
  refine rg_e (.inl rfl) rfl rfl (by exact ev_call0 rfl (.cons rfl (.nil)) (nUp_nil O _)) ?_
  rintro _ _ ⟨rfl, rfl⟩
  refine rg_q (.inl rfl) rfl rfl (by exact QW.qr (qw_assign rfl)) ?_
  refine rg_nil ?_
  refine qg_then ?_
  refine cg_seq ?_
  refine cg_region ?_
  refine rg_q (.inl rfl) rfl rfl (by exact QW.qr (qw_move rfl)) ?_
  refine rg_q (.inl rfl) rfl rfl (by exact QW.qr (qw_neq_t rfl rfl (by decide))) ?_
  refine rg_nil ?_
  refine qg_then ?_
  refine cg_true rfl ?_
  refine cg_seq ?_
  refine cg_region ?_
  refine rg_q (.inl rfl) rfl rfl (by exact QW.qr (qw_move rfl)) ?_
  refine rg_q (.inl rfl) rfl rfl (by exact QW.qr (qw_assign rfl)) ?_
  refine rg_nil ?_
  refine qg_then ?_
  refine cg_ret ?_
  refine qg_then_ret ?_
  exact qg_end (.inl rfl) _ (.cons (.tmp rfl) (.nil)) _ (by repeat (first | exact List.Sublist.refl _ | exact List.nil_sublist _ | exact List.sublist_append_right _ _ | apply List.Sublist.cons_cons | apply List.Sublist.cons | refine List.Sublist.trans ?_ (List.sublist_append_right _ _))) ⟨rfl, rfl⟩

theorem want_nil (iv : Value) (wl : List Value) (O : Out) (L : List Blk) : CA Tryz.prog 16 [.pointer none, iv, .agg wl.toArray] O L fun v L' => v = I 2 ∧ L' = L := by
  refine ca_enter Tryz.func16 rfl rfl ?_
  rw [Tryz.ntmps16]
  simp only [envOf]
  refine cg_seq ?_
  refine cg_region ?_
  refine rg_e (.inl rfl) rfl rfl (by exact ev_box rfl (by first | exact CellsOf.agg | exact CellsOf.one rfl)) ?_
  rintro _ _ ⟨b5, rfl, rfl⟩
  refine rg_q (.inl rfl) rfl rfl (by exact QW.qr (qw_assign rfl)) ?_
  refine rg_nil ?_
  refine qg_then ?_
  refine cg_seq ?_
  refine cg_seq ?_
  refine cg_region ?_
  refine rg_q (.inl rfl) rfl rfl (by exact QW.qr (qw_move rfl)) ?_
  refine rg_e (.inl rfl) rfl rfl (by exact ev_call0 rfl (.cons rfl (.nil)) (nUp_nil O _)) ?_
  rintro _ _ ⟨rfl, rfl⟩
  refine rg_q (.inl rfl) rfl rfl (by exact QW.qr (qw_assign rfl)) ?_
  refine rg_nil ?_
  refine qg_then ?_
  refine cg_seq ?_
  refine cg_region ?_
  refine rg_q (.inl rfl) rfl rfl (by exact QW.qr (qw_move rfl)) ?_
  refine rg_q (.inl rfl) rfl rfl (by exact QW.qr (qw_neq_t rfl rfl (by decide))) ?_
  refine rg_nil ?_
  refine qg_then ?_
  refine cg_true rfl ?_
  refine cg_seq ?_
  refine cg_region ?_
  refine rg_q (.inl rfl) rfl rfl (by exact QW.qr (qw_move rfl)) ?_
  refine rg_q (.inl rfl) rfl rfl (by exact QW.qr (qw_assign rfl)) ?_
  refine rg_nil ?_
  refine qg_then ?_
  refine cg_ret ?_
  refine qg_then_ret ?_
  exact qg_end (.inl rfl) _ (.cons (.tmp rfl) (.nil)) _ (by repeat (first | exact List.Sublist.refl _ | exact List.nil_sublist _ | exact List.sublist_append_right _ _ | apply List.Sublist.cons_cons | apply List.Sublist.cons | refine List.Sublist.trans ?_ (List.sublist_append_right _ _))) ⟨rfl, rfl⟩

theorem channels_nil (O : Out) (L : List Blk) : CA Tryz.prog 17 [.pointer none] O L fun v L' => v = .slice none 0 0 ∧ L' = L := by
  refine ca_enter Tryz.func17 rfl rfl ?_
  rw [Tryz.ntmps17]
  simp only [envOf]
  refine cg_seq ?_
  refine cg_region ?_
  refine rg_q (.inl rfl) rfl rfl (by exact QW.qr (qw_assign rfl)) ?_
  refine rg_nil ?_
  refine qg_then ?_
  refine cg_seq ?_
  refine cg_seq ?_
  refine cg_region ?_
  refine rg_q (.inl rfl) rfl rfl (by exact QW.qr (qw_move rfl)) ?_
  refine rg_q (.inl rfl) rfl rfl (by exact QW.qr (qw_eql_nil (e := 113) rfl rfl)) ?_
  refine rg_nil ?_
  refine qg_then ?_
  refine cg_true rfl ?_
  refine cg_seq ?_
  refine cg_region ?_
  refine rg_q (.inl rfl) rfl rfl (by exact QW.qr (qw_assign rfl)) ?_
  refine rg_nil ?_
  refine qg_then ?_
  refine cg_ret ?_
  refine qg_then_ret ?_
  exact qg_end (.inl rfl) _ (.cons (.tmp rfl) (.nil)) _ (by repeat (first | exact List.Sublist.refl _ | exact List.nil_sublist _ | exact List.sublist_append_right _ _ | apply List.Sublist.cons_cons | apply List.Sublist.cons | refine List.Sublist.trans ?_ (List.sublist_append_right _ _))) ⟨rfl, rfl⟩

theorem secrets_nil (O : Out) (L : List Blk) : CA Tryz.prog 18 [.pointer none] O L fun v L' => v = I 0 ∧ L' = L := by
  refine ca_enter Tryz.func18 rfl rfl ?_
  rw [Tryz.ntmps18]
  simp only [envOf]
  refine cg_seq ?_
  refine cg_region ?_
  refine rg_q (.inl rfl) rfl rfl (by exact QW.qr (qw_assign rfl)) ?_
  refine rg_nil ?_
  refine qg_then ?_
  refine cg_seq ?_
  refine cg_seq ?_
  refine cg_region ?_
  refine rg_q (.inl rfl) rfl rfl (by exact QW.qr (qw_move rfl)) ?_
  refine rg_q (.inl rfl) rfl rfl (by exact QW.qr (qw_eql_nil (e := 113) rfl rfl)) ?_
  refine rg_nil ?_
  refine qg_then ?_
  refine cg_true rfl ?_
  refine cg_seq ?_
  refine cg_region ?_
  refine rg_q (.inl rfl) rfl rfl (by exact QW.qr (qw_assign rfl)) ?_
  refine rg_nil ?_
  refine qg_then ?_
  refine cg_ret ?_
  refine qg_then_ret ?_
  exact qg_end (.inl rfl) _ (.cons (.tmp rfl) (.nil)) _ (by repeat (first | exact List.Sublist.refl _ | exact List.nil_sublist _ | exact List.sublist_append_right _ _ | apply List.Sublist.cons_cons | apply List.Sublist.cons | refine List.Sublist.trans ?_ (List.sublist_append_right _ _))) ⟨rfl, rfl⟩

theorem nDead_nil (O : Out) (L : List Blk) : CA Tryz.prog 19 [.pointer none] O L fun v L' => v = I 2 ∧ L' = L := by
  refine ca_enter Tryz.func19 rfl rfl ?_
  rw [Tryz.ntmps19]
  simp only [envOf]
  refine cg_seq ?_
  refine cg_region ?_
  refine rg_q (.inl rfl) rfl rfl (by exact QW.qr (qw_assign rfl)) ?_
  refine rg_nil ?_
  refine qg_then ?_
  refine cg_seq ?_
  refine cg_region ?_
  refine rg_q (.inl rfl) rfl rfl (by exact QW.qr (qw_move rfl)) ?_
  refine rg_e (.inl rfl) rfl rfl (by exact ev_call0 rfl (.cons rfl (.nil)) (nUp_nil O _)) ?_
  rintro _ _ ⟨rfl, rfl⟩
  refine rg_q (.inl rfl) rfl rfl (by exact QW.qr (qw_assign rfl)) ?_
  refine rg_nil ?_
  refine qg_then ?_
  refine cg_ret ?_
  exact qg_end (.inl rfl) _ (.cons (.tmp rfl) (.nil)) _ (by repeat (first | exact List.Sublist.refl _ | exact List.nil_sublist _ | exact List.sublist_append_right _ _ | apply List.Sublist.cons_cons | apply List.Sublist.cons | refine List.Sublist.trans ?_ (List.sublist_append_right _ _))) ⟨rfl, rfl⟩

def U64 (i : Int) : Value := .int .u64 i
def ruleV : List Value := [U64 1, U64 0, U64 2, U64 3, U64 50]
def zero32 : List Value := List.replicate 32 (.int .u8 0)
def nodeBlk (bn bl bm bs bq : Nat) : Blk := (bn, .cells ([I 0] ++ zero32 ++ ruleV ++ [PT bl, .map (some bm), .map (some bs), .map (some bq), I 0, I 0]).toArray 113 (0, 0))
theorem newLog_ca (b0 b1 : Nat) {K0 K1 : List Blk} (O : Out) (F : List Blk) (h0 : SlabAt b0 newS K0) (h1 : SlabAt b1 newS K1) :
    CA Tryz.prog 56 [PT b0, PT b1] O (cat [K0, K1] F) fun v L' => ∃ bl K2 K02 K12, v = .tuple #[PT bl, I 0] ∧ L' = cat [K2, K02, K12] F ∧ LbIn bl b0 b1 ⟨0, 1, [], 0⟩ K2 := by
  have h := open_ca b0 b1 newS newS K0 K1 h0 h1 (by decide) (by decide) O F
  rw [newOpen] at h
  refine h.mono fun v L' h2 => ?_
  rcases h2 with ⟨he, _⟩ | ⟨_, bl, K2, K02, K12, h3, h4, h5, _⟩
  · exact absurd rfl he
  · exact ⟨bl, K2, K02, K12, h3, h4, h5⟩

theorem rules_ca (O : Out) (L : List Blk) : CA Tryz.prog 21 [] O L fun v L' => v = .agg ruleV.toArray ∧ L' = L := by
  refine ca_enter Tryz.func21 rfl rfl ?_
  rw [Tryz.ntmps21]
  simp only [envOf]
  refine cg_seq ?_
  refine cg_region ?_
  refine rg_e (.inl rfl) rfl rfl (by exact ev_alloc (by first | exact CellsOf.agg | exact CellsOf.one rfl)) ?_
  rintro _ _ ⟨b0, rfl, rfl⟩
  refine rg_nil ?_
  refine qg_then ?_
  refine cg_seq ?_
  refine cg_region ?_
  refine rg_q (.inl rfl) rfl rfl (by exact QW.qr (qw_build (.cons rfl (.nil)) rfl (.cons rfl (by first | exact CellsOf.agg | exact CellsOf.one rfl) (by repeat (first | exact SetSeg.done | apply SetSeg.take | apply SetSeg.skip)) (by rfl) (by rfl) (.nil)))) ?_
  refine rg_q (.inl rfl) rfl rfl (by exact QW.qr (qw_build (.cons rfl (.cons rfl (.cons rfl (.cons rfl (.nil))))) rfl (.cons rfl (by first | exact CellsOf.agg | exact CellsOf.one rfl) (by repeat (first | exact SetSeg.done | apply SetSeg.take | apply SetSeg.skip)) (by rfl) (by rfl) (.cons rfl (by first | exact CellsOf.agg | exact CellsOf.one rfl) (by repeat (first | exact SetSeg.done | apply SetSeg.take | apply SetSeg.skip)) (by rfl) (by rfl) (.cons rfl (by first | exact CellsOf.agg | exact CellsOf.one rfl) (by repeat (first | exact SetSeg.done | apply SetSeg.take | apply SetSeg.skip)) (by rfl) (by rfl) (.cons rfl (by first | exact CellsOf.agg | exact CellsOf.one rfl) (by repeat (first | exact SetSeg.done | apply SetSeg.take | apply SetSeg.skip)) (by rfl) (by rfl) (.nil))))))) ?_
  refine rg_e0 (.inl rfl) rfl (by exact ev_store rfl rfl (by first | exact CellsOf.agg | exact CellsOf.one rfl) (by repeat (first | exact List.Mem.head _ | apply List.Mem.tail | apply List.mem_append_right | assumption)) (by repeat (first | exact SetSeg.done | apply SetSeg.take | apply SetSeg.skip)) rfl rfl (by repeat (first | exact Upd.here | apply Upd.there | apply Upd.app)) (by first | exact Or.inl ⟨inferInstance, rfl⟩ | exact Or.inr inferInstance)) ?_
  rintro _ _ ⟨rfl, rfl⟩
  refine rg_nil ?_
  refine qg_then ?_
  refine cg_ret ?_
  exact qg_end (.inl rfl) _ (.cons (resCellN rfl (by repeat (first | exact List.Mem.head _ | apply List.Mem.tail | apply List.mem_append_right | assumption)) (by repeat (first | exact SegL.done | apply SegL.take | apply SegL.skip))) (.nil)) _ (by repeat (first | exact List.Sublist.refl _ | exact List.nil_sublist _ | exact List.sublist_append_right _ _ | apply List.Sublist.cons_cons | apply List.Sublist.cons | refine List.Sublist.trans ?_ (List.sublist_append_right _ _))) ⟨rfl, rfl⟩

theorem right_ca (O : Out) (L : List Blk) : CA Tryz.prog 55 [.agg ruleV.toArray] O L fun v L' => v = .bool true ∧ L' = L := by
  unfold ruleV U64
  refine ca_enter Tryz.func55 rfl rfl ?_
  rw [Tryz.ntmps55]
  simp only [envOf]
  refine cg_seq ?_
  refine cg_region ?_
  refine rg_e (.inl rfl) rfl rfl (by exact ev_box rfl (by first | exact CellsOf.agg | exact CellsOf.one rfl)) ?_
  rintro _ _ ⟨b1, rfl, rfl⟩
  refine rg_q (.inl rfl) rfl rfl (by exact QW.qr (qw_assign rfl)) ?_
  refine rg_nil ?_
  refine qg_then ?_
  refine cg_seq ?_
  refine cg_region ?_
  refine rg_q (.inl rfl) rfl rfl (by exact QW.qr (qw_fieldAddr rfl)) ?_
  refine rg_q (.inl rfl) rfl rfl (by exact qr_load1 rfl (by repeat (first | exact List.Mem.head _ | apply List.Mem.tail | apply List.mem_append_right | assumption)) rfl) ?_
  refine rg_q (.inl rfl) rfl rfl (by exact QW.qr (qw_geq_t rfl rfl (by decide))) ?_
  refine rg_q (.inl rfl) rfl rfl (by exact QW.qr (qw_move rfl)) ?_
  refine rg_q (.inr (guard_mk rfl rfl rfl rfl)) rfl rfl (by exact QW.qr (qw_fieldAddr rfl)) ?_
  refine rg_q (.inr (guard_mk rfl rfl rfl rfl)) rfl rfl (by exact qr_load1 rfl (by repeat (first | exact List.Mem.head _ | apply List.Mem.tail | apply List.mem_append_right | assumption)) rfl) ?_
  refine rg_q (.inr (guard_mk rfl rfl rfl rfl)) rfl rfl (by exact QW.qr (qw_leq_t rfl rfl (by decide))) ?_
  refine rg_q (.inl rfl) rfl rfl (by exact QW.qr (qw_pick_t rfl rfl)) ?_
  refine rg_q (.inl rfl) rfl rfl (by exact QW.qr (qw_move rfl)) ?_
  refine rg_q (.inr (guard_mk rfl rfl rfl rfl)) rfl rfl (by exact QW.qr (qw_fieldAddr rfl)) ?_
  refine rg_q (.inr (guard_mk rfl rfl rfl rfl)) rfl rfl (by exact qr_load1 rfl (by repeat (first | exact List.Mem.head _ | apply List.Mem.tail | apply List.mem_append_right | assumption)) rfl) ?_
  refine rg_q (.inr (guard_mk rfl rfl rfl rfl)) rfl rfl (by exact QW.qr (qw_leq_t rfl rfl (by decide))) ?_
  refine rg_q (.inl rfl) rfl rfl (by exact QW.qr (qw_pick_t rfl rfl)) ?_
  refine rg_q (.inl rfl) rfl rfl (by exact QW.qr (qw_move rfl)) ?_
  refine rg_q (.inr (guard_mk rfl rfl rfl rfl)) rfl rfl (by exact QW.qr (qw_fieldAddr rfl)) ?_
  refine rg_q (.inr (guard_mk rfl rfl rfl rfl)) rfl rfl (by exact qr_load1 rfl (by repeat (first | exact List.Mem.head _ | apply List.Mem.tail | apply List.mem_append_right | assumption)) rfl) ?_
  refine rg_q (.inr (guard_mk rfl rfl rfl rfl)) rfl rfl (by exact QW.qr (qw_geq_t rfl rfl (by decide))) ?_
  refine rg_q (.inl rfl) rfl rfl (by exact QW.qr (qw_pick_t rfl rfl)) ?_
  refine rg_q (.inl rfl) rfl rfl (by exact QW.qr (qw_move rfl)) ?_
  refine rg_q (.inr (guard_mk rfl rfl rfl rfl)) rfl rfl (by exact QW.qr (qw_fieldAddr rfl)) ?_
  refine rg_q (.inr (guard_mk rfl rfl rfl rfl)) rfl rfl (by exact qr_load1 rfl (by repeat (first | exact List.Mem.head _ | apply List.Mem.tail | apply List.mem_append_right | assumption)) rfl) ?_
  refine rg_q (.inr (guard_mk rfl rfl rfl rfl)) rfl rfl (by exact QW.qr (qw_leq_t rfl rfl (by decide))) ?_
  refine rg_q (.inl rfl) rfl rfl (by exact QW.qr (qw_pick_t rfl rfl)) ?_
  refine rg_q (.inl rfl) rfl rfl (by exact QW.qr (qw_move rfl)) ?_
  refine rg_q (.inr (guard_mk rfl rfl rfl rfl)) rfl rfl (by exact QW.qr (qw_fieldAddr rfl)) ?_
  refine rg_q (.inr (guard_mk rfl rfl rfl rfl)) rfl rfl (by exact QW.qr (qw_fieldAddr rfl)) ?_
  refine rg_q (.inr (guard_mk rfl rfl rfl rfl)) rfl rfl (by exact qr_load1 rfl (by repeat (first | exact List.Mem.head _ | apply List.Mem.tail | apply List.mem_append_right | assumption)) rfl) ?_
  refine rg_q (.inr (guard_mk rfl rfl rfl rfl)) rfl rfl (by exact QW.qr (qw_leq_t rfl rfl (by decide))) ?_
  refine rg_q (.inl rfl) rfl rfl (by exact QW.qr (qw_pick_t rfl rfl)) ?_
  refine rg_q (.inl rfl) rfl rfl (by exact QW.qr (qw_assign rfl)) ?_
  refine rg_nil ?_
  refine qg_then ?_
  refine cg_ret ?_
  exact qg_end (.inl rfl) _ (.cons (.tmp rfl) (.nil)) _ (by repeat (first | exact List.Sublist.refl _ | exact List.nil_sublist _ | exact List.sublist_append_right _ _ | apply List.Sublist.cons_cons | apply List.Sublist.cons | refine List.Sublist.trans ?_ (List.sublist_append_right _ _))) ⟨rfl, rfl⟩

end Go.Proofs.YthmicniimofagaaGreat