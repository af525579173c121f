/-
  THE WALKS of the small functions. No condition.
-/
import Derived.Test.YtjimpciiaceleaaFwG
namespace Go.Proofs.Ytjimpciiaceleaa
open Fw
set_option linter.unusedVariables false
set_option maxRecDepth 100000

def encFee (f : Int × Int) : List Value := [U f.1, U f.2]
structure Edge where
  e0 : Int
  e1 : Int
  c0 : Int
  c1 : Int
  f0 : Int × Int
  f1 : Int × Int
def encE (e : Edge) : List Value := [I e.e0, I e.e1, U e.c0, U e.c1, U e.f0.1, U e.f0.2, U e.f1.1, U e.f1.2]

/-- The first place of x, or -1. -/
def idxOf (xs : List Int) (x : Int) : Int := match xs with
  | [] => -1
  | y :: ys => if y = x then 0 else match idxOf ys x with
    | .ofNat k => .ofNat (k + 1)
    | .negSucc k => .negSucc k
theorem idxOf_none {xs : List Int} {x : Int} (h : ∀ j, (h : j < xs.length) → xs[j] ≠ x) : idxOf xs x = -1 := by
  induction xs with
  | nil => rfl
  | cons y ys ih =>
    have h0 := h 0 (by simp)
    have := ih (fun j hj => by have := h (j + 1) (by simpa using hj); simpa using this)
    simp only [idxOf, this]
    rw [if_neg (by simpa using h0)]
    rfl
theorem idxOf_at {xs : List Int} {x : Int} {k : Nat} (hk : k < xs.length) (h : ∀ j, (h : j < k) → xs[j]'(by omega) ≠ x) (he : xs[k] = x) : idxOf xs x = k := by
  induction xs generalizing k with
  | nil => simp at hk
  | cons y ys ih =>
    cases k with
    | zero => simp only [idxOf]; rw [if_pos (by simpa using he)]; rfl
    | succ k =>
      have h0 := h 0 (by omega)
      have := ih (k := k) (by simpa using hk) (fun j hj => by have := h (j + 1) (by omega); simpa using this) (by simpa using he)
      simp only [idxOf, this]
      rw [if_neg (by simpa using h0)]
      rfl

theorem long_ca (n a : Value) (p : Option Addr) (len cap : Nat) (hn : n.oneCell' = true) (ha : a.oneCell' = true) (O : Out) (L : List Blk) :
    CA Try.prog 10 [.agg #[n, .slice p len cap, a]] O L fun v L' => v = .int .i64 len ∧ L' = L := by
  refine ca_enter Try.func10 rfl rfl ?_
  rw [Try.ntmps10]
  simp only [envOf]
  refine cg_seq ?_
  refine cg_region ?_
  refine rg_e (.inl rfl) rfl rfl (by exact ev_box rfl (by first | exact CellsOf.agg | exact CellsOf.one rfl)) ?_
  rintro _ _ ⟨b1, rfl, rfl⟩
  refine rg_q (.inl rfl) rfl rfl (by exact QW.qr (qw_assign rfl)) ?_
  refine rg_nil ?_
  refine qg_then ?_
  refine cg_seq ?_
  refine cg_region ?_
  refine rg_q (.inl rfl) rfl rfl (by exact QW.qr (qw_fieldAddr rfl)) ?_
  refine rg_q (.inl rfl) rfl rfl (by exact qr_load1 rfl (by repeat (first | exact List.Mem.head _ | apply List.Mem.tail | apply List.mem_append_right | assumption)) rfl) ?_
  refine rg_q (.inl rfl) rfl rfl (by exact QW.qr (qw_len_slice (t := 38) (.cons rfl (.nil)) rfl)) ?_
  refine rg_q (.inl rfl) rfl rfl (by exact QW.qr (qw_assign rfl)) ?_
  refine rg_nil ?_
  refine qg_then ?_
  refine cg_ret ?_
  exact qg_end (.inl rfl) _ (.cons (.tmp rfl) (.nil)) _ (by repeat (first | exact List.Sublist.refl _ | exact List.nil_sublist _ | exact List.sublist_append_right _ _ | apply List.Sublist.cons_cons | apply List.Sublist.cons)) ⟨rfl, rfl⟩

theorem index_ca (xs : List Int) (x : Int) (s : Value) (O : Out) (L : List Blk) (hs : RdL L encI 1 s xs) (hsz : xs.length < 4611686018427387904) :
    CA Try.prog 25 [s, I x] O L fun v L' => v = .int .i64 (idxOf xs x) ∧ L' = L := by
  obtain ⟨p, cap, rfl, hl, hcap, hsp, hR⟩ := hs
  refine ca_enter Try.func25 rfl rfl ?_
  rw [Try.ntmps25]
  simp only [envOf]
  refine cg_seq ?_
  refine cg_region ?_
  refine rg_q (.inl rfl) rfl rfl (by exact QW.qr (qw_assign rfl)) ?_
  refine rg_nil ?_
  refine qg_then ?_
  refine cg_seq ?_
  refine cg_seq ?_
  refine cg_region ?_
  refine rg_q (.inl rfl) rfl rfl (by exact QW.qr (qw_move rfl)) ?_
  refine rg_q (.inl rfl) rfl rfl (by exact QW.qr (qw_len_slice (t := 38) (.cons rfl (.nil)) rfl)) ?_
  refine rg_q (.inl rfl) rfl rfl (by exact QW.qr (qw_move rfl)) ?_
  refine rg_nil ?_
  refine qg_then ?_
  refine cg_block ?_
  refine cg_loop (fun E' L' m => ∃ k : Nat, k ≤ xs.length ∧ (∀ j, j < k → ∀ h2 : j < xs.length, xs[j] ≠ x) ∧ E' = [(0, .slice p xs.length cap), (1, I x), (7, .int .i64 xs.length), (8, .int .i64 k)] ∧ L' = L ∧ m = xs.length - k) _ _ _ ⟨0, by omega, fun j h => by omega, rfl, rfl, rfl⟩ (by repeat (first | exact Sub.nil | refine Sub.cons rfl ?_ | refine Sub.cons (congrArg (fun z => some (Value.int IntKind.i64 z)) (by omega)) ?_)) (List.Perm.refl _) ?_
  rintro _ _ _ ⟨k, hk, hne, rfl, rfl, rfl⟩
  refine cg_seq ?_
  refine cg_region ?_
  refine rg_split (.inl rfl) rfl rfl (by exact qc_lss rfl rfl) ?_ ?_
  · intro hlt
    have hlt' : k < xs.length := by omega
    obtain ⟨b, o, A, t, fz, rfl, hm, hseg⟩ := hR (by omega)
    have hg := (hseg.elem (enc := encI) (k := 1) (fun _ => rfl) hlt').get (i := 0) (v := I xs[k]) rfl
    simp only [Nat.mul_one, Nat.add_zero] at hg
    refine rg_nil ?_
    refine qg_then ?_
    refine cg_seq ?_
    refine cg_true rfl ?_
    refine cg_skip ?_
    refine qg_then ?_
    refine cg_seq ?_
    refine cg_block ?_
    refine cg_seq ?_
    refine cg_region ?_
    refine rg_q (.inl rfl) rfl rfl (by exact QW.qr (qw_move rfl)) ?_
    refine rg_q (.inl rfl) rfl rfl (by exact QW.qr (qw_assign rfl)) ?_
    refine rg_nil ?_
    refine qg_then ?_
    refine cg_seq ?_
    refine cg_region ?_
    refine rg_q (.inl rfl) rfl rfl (by exact QW.qr (qw_move rfl)) ?_
    refine rg_q (.inl rfl) rfl rfl (by exact QW.qr (qw_move rfl)) ?_
    refine rg_q (.inl rfl) rfl rfl (by exact QW.qr (qw_move rfl)) ?_
    refine rg_q (.inl rfl) rfl rfl (by exact QW.qr (qw_indexAddr rfl rfl (by omega) (by omega))) ?_
    refine rg_q (.inl rfl) rfl rfl (by exact qr_load1' rfl hm (by simpa using hg)) ?_
    refine rg_split (.inl rfl) rfl rfl (by exact qc_eql rfl rfl) ?_ ?_
    · intro hc16
      refine rg_nil ?_
      refine qg_then ?_
      refine cg_true rfl ?_
      refine cg_seq ?_
      refine cg_region ?_
      refine rg_q (.inl rfl) rfl rfl (by exact QW.qr (qw_move rfl)) ?_
      refine rg_q (.inl rfl) rfl rfl (by exact QW.qr (qw_assign rfl)) ?_
      refine rg_nil ?_
      refine qg_then ?_
      refine cg_ret ?_
      refine qg_block_ret ?_
      refine qg_then_ret ?_
      refine qg_then_ret ?_
      refine qg_block_ret ?_
      refine qg_then_ret ?_
      first | exact qg_end (.inl rfl) _ (.cons (.tmp rfl) (.nil)) _ (by repeat (first | exact List.Sublist.refl _ | exact List.nil_sublist _ | exact List.sublist_append_right _ _ | apply List.Sublist.cons_cons | apply List.Sublist.cons)) ⟨by rw [idxOf_at hlt' (fun j h => hne j h (by omega)) hc16.symm]; rfl, rfl⟩ | exact qg_end (.inl rfl) _ (.cons (.tmp rfl) (.nil)) _ (by repeat (first | exact List.Sublist.refl _ | exact List.nil_sublist _ | exact List.sublist_append_right _ _ | apply List.Sublist.cons_cons | apply List.Sublist.cons)) ⟨by rw [idxOf_none (fun j h => hne j (by omega) h)]; rfl, rfl⟩
    · intro hc16
      refine rg_nil ?_
      refine qg_then ?_
      refine cg_false rfl ?_
      refine cg_skip ?_
      refine qg_block ?_
      refine qg_then ?_
      refine cg_region ?_
      refine rg_q (.inl rfl) rfl rfl (by exact QW.qr (qw_add_in rfl rfl (by unfold inK; omega))) ?_
      refine rg_q (.inl rfl) rfl rfl (by exact QW.qr (qw_move rfl)) ?_
      refine rg_nil ?_
      exact qg_round _ _ _ ⟨k + 1, by omega, fun j h h2 => by (rcases Nat.lt_succ_iff_lt_or_eq.1 h with h3 | h3; exact hne j h3 h2; subst h3; exact fun e => hc16 e.symm), rfl, rfl, rfl⟩ (by repeat (first | exact Sub.nil | refine Sub.cons rfl ?_ | refine Sub.cons (congrArg (fun z => some (Value.int IntKind.i64 z)) (by omega)) ?_)) (List.Perm.refl _) (by omega)
  · intro hlt
    refine rg_nil ?_
    refine qg_then ?_
    refine cg_seq ?_
    refine cg_false rfl ?_
    refine cg_exit ?_
    refine qg_then_exit ?_
    refine qg_then_exit ?_
    refine qg_block_here ?_
    refine qg_then ?_
    refine cg_seq ?_
    refine cg_region ?_
    refine rg_q (.inl rfl) rfl rfl (by exact QW.qr (qw_assign rfl)) ?_
    refine rg_nil ?_
    refine qg_then ?_
    refine cg_ret ?_
    first | exact qg_end (.inl rfl) _ (.cons (.tmp rfl) (.nil)) _ (by repeat (first | exact List.Sublist.refl _ | exact List.nil_sublist _ | exact List.sublist_append_right _ _ | apply List.Sublist.cons_cons | apply List.Sublist.cons)) ⟨by rw [idxOf_at hlt' (fun j h => hne j h (by omega)) hc16.symm]; rfl, rfl⟩ | exact qg_end (.inl rfl) _ (.cons (.tmp rfl) (.nil)) _ (by repeat (first | exact List.Sublist.refl _ | exact List.nil_sublist _ | exact List.sublist_append_right _ _ | apply List.Sublist.cons_cons | apply List.Sublist.cons)) ⟨by rw [idxOf_none (fun j h => hne j (by omega) h)]; rfl, rfl⟩

end Go.Proofs.Ytjimpciiaceleaa