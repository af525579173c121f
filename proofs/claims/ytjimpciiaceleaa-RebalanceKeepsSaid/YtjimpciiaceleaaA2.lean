/-
  THE WALKS of money's functions, and of the library's that they call. Conditions: a part is one of a million.
-/
import Derived.Test.YtjimpciiaceleaaFwH
namespace Go.Proofs.Ytjimpciiaceleaa
open Fw
set_option linter.unusedVariables false
set_option maxRecDepth 100000

theorem add64_run (a b : Int) (w : World) : (callFunc 45 #[.int .u64 a, .int .u64 b, .int .u64 0]).run Try.prog w = .ok (.value (.tuple #[.int .u64 (Int.ofNat ((a.toNat + b.toNat + 0) % Extern.MathBitsCarry.m64)), .int .u64 (Int.ofNat ((a.toNat + b.toNat + 0) / Extern.MathBitsCarry.m64))])) w := by
  kernel_rfl
theorem add64_run' (a b : Int) (ha : isU64 a) (hb : isU64 b) (w : World) : (callFunc 45 #[.int .u64 a, .int .u64 b, .int .u64 0]).run Try.prog w = .ok (.value (.tuple #[.int .u64 ((a + b) % 18446744073709551616), .int .u64 ((a + b) / 18446744073709551616)])) w := by
  rw [add64_run]
  unfold isU64 at ha hb
  have h1 : Int.ofNat ((a.toNat + b.toNat + 0) % Extern.MathBitsCarry.m64) = (a + b) % 18446744073709551616 := by
    show (((a.toNat + b.toNat + 0) % 18446744073709551616 : Nat) : Int) = _; omega
  have h2 : Int.ofNat ((a.toNat + b.toNat + 0) / Extern.MathBitsCarry.m64) = (a + b) / 18446744073709551616 := by
    show (((a.toNat + b.toNat + 0) / 18446744073709551616 : Nat) : Int) = _; omega
  rw [h1, h2]
def OKn : Int := 0
/-- money.Add. -/
def addM (a b : Int) : Int × Int := if a + b < 18446744073709551616 then (a + b, 0) else (0, 11)

theorem addM_yes {a b : Int} (ha : 0 ≤ a ∧ a ≤ 18446744073709551615) (hb : 0 ≤ b ∧ b ≤ 18446744073709551615) (hc : ¬ ((a + b) / 18446744073709551616 ≠ 0)) : one [.int .u64 ((a + b) % 18446744073709551616), .int .i64 0] = .tuple #[U (addM a b).1, I (addM a b).2] := by
  have h : a + b < 18446744073709551616 := by omega
  rw [addM, if_pos h, Int.emod_eq_of_lt (by omega) h]; rfl
theorem addM_no {a b : Int} (ha : 0 ≤ a ∧ a ≤ 18446744073709551615) (hb : 0 ≤ b ∧ b ≤ 18446744073709551615) (hc : (a + b) / 18446744073709551616 ≠ 0) : one [.int .u64 0, .int .i64 11] = .tuple #[U (addM a b).1, I (addM a b).2] := by
  have h : ¬ (a + b < 18446744073709551616) := by omega
  rw [addM, if_neg h]; rfl

theorem add_ca (a b : Int) (ha : isU64 a) (hb : isU64 b) (O : Out) (L : List Blk) :
    CA Try.prog 38 [U a, U b] O L fun v L' => v = .tuple #[U (addM a b).1, I (addM a b).2] ∧ L' = L := by
  unfold isU64 at ha hb
  refine ca_enter Try.func38 rfl rfl ?_
  rw [Try.ntmps38]
  simp only [envOf]
  refine cg_seq ?_
  refine cg_region ?_
  refine rg_q (.inl rfl) rfl rfl (by exact QW.qr (qw_assign rfl)) ?_
  refine rg_q (.inl rfl) rfl rfl (by exact QW.qr (qw_assign rfl)) ?_
  refine rg_nil ?_
  refine qg_then ?_
  refine cg_seq ?_
  refine cg_region ?_
  refine rg_q (.inl rfl) rfl rfl (by exact QW.qr (qw_move rfl)) ?_
  refine rg_q (.inl rfl) rfl rfl (by exact QW.qr (qw_move rfl)) ?_
  refine rg_e (.inl rfl) rfl rfl (by exact ev_ext rfl (.cons rfl (.cons rfl (.cons rfl (.nil)))) (add64_run' a b ha hb)) ?_
  rintro _ _ ⟨rfl, rfl⟩
  refine rg_q (.inl rfl) rfl rfl (by exact QW.qr (qw_move rfl)) ?_
  refine rg_q (.inl rfl) rfl rfl (by exact QW.qr (qw_extract rfl rfl)) ?_
  refine rg_q (.inl rfl) rfl rfl (by exact QW.qr (qw_extract rfl rfl)) ?_
  refine rg_q (.inl rfl) rfl rfl (by exact QW.qr (qw_assign rfl)) ?_
  refine rg_q (.inl rfl) rfl rfl (by exact QW.qr (qw_assign rfl)) ?_
  refine rg_nil ?_
  refine qg_then ?_
  refine cg_seq ?_
  refine cg_seq ?_
  refine cg_region ?_
  refine rg_q (.inl rfl) rfl rfl (by exact QW.qr (qw_move rfl)) ?_
  refine rg_split (.inl rfl) rfl rfl (by exact qc_neq rfl rfl) ?_ ?_
  · intro hc
    refine rg_nil ?_
    refine qg_then ?_
    refine cg_true rfl ?_
    refine cg_seq ?_
    refine cg_region ?_
    refine rg_q (.inl rfl) rfl rfl (by exact QW.qr (qw_assign rfl)) ?_
    refine rg_q (.inl rfl) rfl rfl (by exact QW.qr (qw_assign rfl)) ?_
    refine rg_nil ?_
    refine qg_then ?_
    refine cg_ret ?_
    refine qg_then_ret ?_
    first | exact qg_end (.inl rfl) _ (.cons (.tmp rfl) (.cons (.tmp rfl) (.nil))) _ (by repeat (first | exact List.Sublist.refl _ | exact List.nil_sublist _ | exact List.sublist_append_right _ _ | apply List.Sublist.cons_cons | apply List.Sublist.cons)) ⟨addM_yes ha hb hc, rfl⟩ | exact qg_end (.inl rfl) _ (.cons (.tmp rfl) (.cons (.tmp rfl) (.nil))) _ (by repeat (first | exact List.Sublist.refl _ | exact List.nil_sublist _ | exact List.sublist_append_right _ _ | apply List.Sublist.cons_cons | apply List.Sublist.cons)) ⟨addM_no ha hb hc, rfl⟩
  · intro hc
    refine rg_nil ?_
    refine qg_then ?_
    refine cg_false rfl ?_
    refine cg_skip ?_
    refine qg_then ?_
    refine cg_seq ?_
    refine cg_region ?_
    refine rg_q (.inl rfl) rfl rfl (by exact QW.qr (qw_move rfl)) ?_
    refine rg_q (.inl rfl) rfl rfl (by exact QW.qr (qw_assign rfl)) ?_
    refine rg_q (.inl rfl) rfl rfl (by exact QW.qr (qw_assign rfl)) ?_
    refine rg_nil ?_
    refine qg_then ?_
    refine cg_ret ?_
    first | exact qg_end (.inl rfl) _ (.cons (.tmp rfl) (.cons (.tmp rfl) (.nil))) _ (by repeat (first | exact List.Sublist.refl _ | exact List.nil_sublist _ | exact List.sublist_append_right _ _ | apply List.Sublist.cons_cons | apply List.Sublist.cons)) ⟨addM_yes ha hb hc, rfl⟩ | exact qg_end (.inl rfl) _ (.cons (.tmp rfl) (.cons (.tmp rfl) (.nil))) _ (by repeat (first | exact List.Sublist.refl _ | exact List.nil_sublist _ | exact List.sublist_append_right _ _ | apply List.Sublist.cons_cons | apply List.Sublist.cons)) ⟨addM_no ha hb hc, rfl⟩

theorem mul64_ca (x y : Int) : ∃ hi lo : Int, (isU64 hi ∧ isU64 lo ∧ (x = 5 → y = 0 → hi = 0 ∧ lo = 0)) ∧ ∀ (O : Out) (L : List Blk),
    CA Try.prog 47 [U x, U y] O L fun v L' => v = .tuple #[U hi, U lo] ∧ L' = L := by
  apply Exists.intro
  apply Exists.intro
  apply And.intro
  rotate_left
  intro O L
  refine ca_enter Try.func47 rfl rfl ?_
  rw [Try.ntmps47]
  simp only [envOf]
  refine cg_seq ?_
  refine cg_region ?_
  refine rg_q (.inl rfl) rfl rfl (by exact QW.qr (qw_assign rfl)) ?_
  refine rg_q (.inl rfl) rfl rfl (by exact QW.qr (qw_assign rfl)) ?_
  refine rg_nil ?_
  refine qg_then ?_
  refine cg_seq ?_
  refine cg_region ?_
  refine rg_q (.inl rfl) rfl rfl (by exact QW.qr (qw_move rfl)) ?_
  refine rg_q (.inl rfl) rfl rfl (by exact QW.qr (qw_and rfl rfl)) ?_
  refine rg_q (.inl rfl) rfl rfl (by exact QW.qr (qw_assign rfl)) ?_
  refine rg_nil ?_
  refine qg_then ?_
  refine cg_seq ?_
  refine cg_region ?_
  refine rg_q (.inl rfl) rfl rfl (by exact QW.qr (qw_move rfl)) ?_
  refine rg_q (.inl rfl) rfl rfl (by exact QW.qr (qw_shr rfl rfl (by decide))) ?_
  refine rg_q (.inl rfl) rfl rfl (by exact QW.qr (qw_assign rfl)) ?_
  refine rg_nil ?_
  refine qg_then ?_
  refine cg_seq ?_
  refine cg_region ?_
  refine rg_q (.inl rfl) rfl rfl (by exact QW.qr (qw_move rfl)) ?_
  refine rg_q (.inl rfl) rfl rfl (by exact QW.qr (qw_and rfl rfl)) ?_
  refine rg_q (.inl rfl) rfl rfl (by exact QW.qr (qw_assign rfl)) ?_
  refine rg_nil ?_
  refine qg_then ?_
  refine cg_seq ?_
  refine cg_region ?_
  refine rg_q (.inl rfl) rfl rfl (by exact QW.qr (qw_move rfl)) ?_
  refine rg_q (.inl rfl) rfl rfl (by exact QW.qr (qw_shr rfl rfl (by decide))) ?_
  refine rg_q (.inl rfl) rfl rfl (by exact QW.qr (qw_assign rfl)) ?_
  refine rg_nil ?_
  refine qg_then ?_
  refine cg_seq ?_
  refine cg_region ?_
  refine rg_q (.inl rfl) rfl rfl (by exact QW.qr (qw_move rfl)) ?_
  refine rg_q (.inl rfl) rfl rfl (by exact QW.qr (qw_move rfl)) ?_
  refine rg_q (.inl rfl) rfl rfl (by exact QW.qr (qw_mul rfl rfl)) ?_
  refine rg_q (.inl rfl) rfl rfl (by exact QW.qr (qw_assign rfl)) ?_
  refine rg_nil ?_
  refine qg_then ?_
  refine cg_seq ?_
  refine cg_region ?_
  refine rg_q (.inl rfl) rfl rfl (by exact QW.qr (qw_move rfl)) ?_
  refine rg_q (.inl rfl) rfl rfl (by exact QW.qr (qw_move rfl)) ?_
  refine rg_q (.inl rfl) rfl rfl (by exact QW.qr (qw_mul rfl rfl)) ?_
  refine rg_q (.inl rfl) rfl rfl (by exact QW.qr (qw_move rfl)) ?_
  refine rg_q (.inl rfl) rfl rfl (by exact QW.qr (qw_shr rfl rfl (by decide))) ?_
  refine rg_q (.inl rfl) rfl rfl (by exact QW.qr (qw_add rfl rfl)) ?_
  refine rg_q (.inl rfl) rfl rfl (by exact QW.qr (qw_assign rfl)) ?_
  refine rg_nil ?_
  refine qg_then ?_
  refine cg_seq ?_
  refine cg_region ?_
  refine rg_q (.inl rfl) rfl rfl (by exact QW.qr (qw_move rfl)) ?_
  refine rg_q (.inl rfl) rfl rfl (by exact QW.qr (qw_and rfl rfl)) ?_
  refine rg_q (.inl rfl) rfl rfl (by exact QW.qr (qw_assign rfl)) ?_
  refine rg_nil ?_
  refine qg_then ?_
  refine cg_seq ?_
  refine cg_region ?_
  refine rg_q (.inl rfl) rfl rfl (by exact QW.qr (qw_move rfl)) ?_
  refine rg_q (.inl rfl) rfl rfl (by exact QW.qr (qw_shr rfl rfl (by decide))) ?_
  refine rg_q (.inl rfl) rfl rfl (by exact QW.qr (qw_assign rfl)) ?_
  refine rg_nil ?_
  refine qg_then ?_
  refine cg_seq ?_
  refine cg_region ?_
  refine rg_q (.inl rfl) rfl rfl (by exact QW.qr (qw_move rfl)) ?_
  refine rg_q (.inl rfl) rfl rfl (by exact QW.qr (qw_move rfl)) ?_
  refine rg_q (.inl rfl) rfl rfl (by exact QW.qr (qw_move rfl)) ?_
  refine rg_q (.inl rfl) rfl rfl (by exact QW.qr (qw_mul rfl rfl)) ?_
  refine rg_q (.inl rfl) rfl rfl (by exact QW.qr (qw_add rfl rfl)) ?_
  refine rg_q (.inl rfl) rfl rfl (by exact QW.qr (qw_assign rfl)) ?_
  refine rg_nil ?_
  refine qg_then ?_
  refine cg_seq ?_
  refine cg_region ?_
  refine rg_q (.inl rfl) rfl rfl (by exact QW.qr (qw_move rfl)) ?_
  refine rg_q (.inl rfl) rfl rfl (by exact QW.qr (qw_move rfl)) ?_
  refine rg_q (.inl rfl) rfl rfl (by exact QW.qr (qw_mul rfl rfl)) ?_
  refine rg_q (.inl rfl) rfl rfl (by exact QW.qr (qw_move rfl)) ?_
  refine rg_q (.inl rfl) rfl rfl (by exact QW.qr (qw_add rfl rfl)) ?_
  refine rg_q (.inl rfl) rfl rfl (by exact QW.qr (qw_move rfl)) ?_
  refine rg_q (.inl rfl) rfl rfl (by exact QW.qr (qw_shr rfl rfl (by decide))) ?_
  refine rg_q (.inl rfl) rfl rfl (by exact QW.qr (qw_add rfl rfl)) ?_
  refine rg_q (.inl rfl) rfl rfl (by exact QW.qr (qw_assign rfl)) ?_
  refine rg_nil ?_
  refine qg_then ?_
  refine cg_seq ?_
  refine cg_region ?_
  refine rg_q (.inl rfl) rfl rfl (by exact QW.qr (qw_move rfl)) ?_
  refine rg_q (.inl rfl) rfl rfl (by exact QW.qr (qw_move rfl)) ?_
  refine rg_q (.inl rfl) rfl rfl (by exact QW.qr (qw_mul rfl rfl)) ?_
  refine rg_q (.inl rfl) rfl rfl (by exact QW.qr (qw_assign rfl)) ?_
  refine rg_nil ?_
  refine qg_then ?_
  refine cg_ret ?_
  exact qg_end (.inl rfl) _ (.cons (.tmp rfl) (.cons (.tmp rfl) (.nil))) _ (by repeat (first | exact List.Sublist.refl _ | exact List.nil_sublist _ | exact List.sublist_append_right _ _ | apply List.Sublist.cons_cons | apply List.Sublist.cons)) ⟨rfl, rfl⟩
  exact ⟨wrap_u64_range _, wrap_u64_range _, fun h1 h2 => by subst h1; subst h2; exact ⟨by decide, by decide⟩⟩

end Go.Proofs.Ytjimpciiaceleaa