/-
  THE WALKS of money's functions (2): parts of a million, fees, what is asked for a way. No condition beyond the kinds' ranges.
-/
import Derived.Test.YtjimpciiaceleaaA2
namespace Go.Proofs.Ytjimpciiaceleaa
open Fw
set_option linter.unusedVariables false
set_option maxRecDepth 100000

theorem or_disjoint {a b : Int} (ha : 0 ≤ a) (ha2 : a < 1048576) (hb : 0 ≤ b) (hb2 : b < 17592186044416) : orF .u64 (shlF .u64 a 44) b = a * 17592186044416 + b := by
  have h1 : shlF .u64 a 44 = a * 17592186044416 := by
    show IntKind.wrap .u64 (a * 2 ^ 44) = _
    rw [wrap_u64]; omega
  rw [h1]
  obtain ⟨x, rfl⟩ := Int.eq_ofNat_of_zero_le ha
  obtain ⟨y, rfl⟩ := Int.eq_ofNat_of_zero_le hb
  have hx : x < 1048576 := by omega
  have hy : y < 2 ^ 44 := by omega
  have h2 : (BitVec.ofInt 64 ((x : Int) * 17592186044416)) = BitVec.ofNat 64 (x * 2 ^ 44) := by
    rw [show ((x : Int) * 17592186044416) = ((x * 2 ^ 44 : Nat) : Int) from by omega]; exact BitVec.ofInt_natCast ..
  have h3 : (BitVec.ofInt 64 (y : Int)) = BitVec.ofNat 64 y := BitVec.ofInt_natCast ..
  unfold orF
  show IntKind.wrap .u64 ((BitVec.ofInt 64 ((x : Int) * 17592186044416) ||| BitVec.ofInt 64 (y : Int)).toNat : Int) = _
  rw [h2, h3, BitVec.toNat_or, BitVec.toNat_ofNat, BitVec.toNat_ofNat, Nat.mod_eq_of_lt (by omega), Nat.mod_eq_of_lt (by omega), ← Nat.shiftLeft_eq, ← Nat.shiftLeft_add_eq_or_of_lt hy, Nat.shiftLeft_eq, wrap_u64]
  omega

theorem len64_ca (O : Out) (L : List Blk) :
    CA Try.prog 50 [U 1000000] O L fun v L' => v = I 20 ∧ L' = L := by
  refine ca_enter Try.func50 rfl rfl ?_
  rw [Try.ntmps50]
  simp only [envOf]
  refine cg_seq ?_
  refine cg_region ?_
  refine rg_q (.inl rfl) rfl rfl (by exact QW.qr (qw_assign rfl)) ?_
  refine rg_nil ?_
  refine qg_then ?_
  refine cg_seq ?_
  refine cg_seq ?_
  refine cg_region ?_
  refine rg_q (.inl rfl) rfl rfl (by exact QW.qr (qw_move rfl)) ?_
  refine rg_q (.inl rfl) rfl rfl (by exact QW.qr (qw_geq_f rfl rfl (by decide))) ?_
  refine rg_nil ?_
  refine qg_then ?_
  refine cg_false rfl ?_
  refine cg_skip ?_
  refine qg_then ?_
  refine cg_seq ?_
  refine cg_seq ?_
  refine cg_region ?_
  refine rg_q (.inl rfl) rfl rfl (by exact QW.qr (qw_move rfl)) ?_
  refine rg_q (.inl rfl) rfl rfl (by exact QW.qr (qw_geq_t rfl rfl (by decide))) ?_
  refine rg_nil ?_
  refine qg_then ?_
  refine cg_true rfl ?_
  refine cg_seq ?_
  refine cg_region ?_
  refine rg_q (.inl rfl) rfl rfl (by exact QW.qr (qw_move rfl)) ?_
  refine rg_q (.inl rfl) rfl rfl (by exact QW.qr (qw_val (v' := U 15) (qw_shr rfl rfl (by decide)) rfl)) ?_
  refine rg_q (.inl rfl) rfl rfl (by exact QW.qr (qw_assign rfl)) ?_
  refine rg_nil ?_
  refine qg_then ?_
  refine cg_region ?_
  refine rg_q (.inl rfl) rfl rfl (by exact QW.qr (qw_move rfl)) ?_
  refine rg_q (.inl rfl) rfl rfl (by exact QW.qr (qw_add_in rfl rfl (by unfold inK; omega))) ?_
  refine rg_q (.inl rfl) rfl rfl (by exact QW.qr (qw_assign rfl)) ?_
  refine rg_nil ?_
  refine qg_then ?_
  refine cg_seq ?_
  refine cg_seq ?_
  refine cg_region ?_
  refine rg_q (.inl rfl) rfl rfl (by exact QW.qr (qw_move rfl)) ?_
  refine rg_q (.inl rfl) rfl rfl (by exact QW.qr (qw_geq_f rfl rfl (by decide))) ?_
  refine rg_nil ?_
  refine qg_then ?_
  refine cg_false rfl ?_
  refine cg_skip ?_
  refine qg_then ?_
  refine cg_seq ?_
  refine cg_region ?_
  refine rg_q (.inl rfl) rfl rfl (by exact QW.qr (qw_move rfl)) ?_
  refine rg_q (.inl rfl) rfl rfl (by exact QW.qr (qw_move rfl)) ?_
  refine rg_q (.inl rfl) rfl rfl (by exact QW.qr (qw_val (v' := .int .u8 15) (qw_conv rfl) rfl)) ?_
  refine rg_q (.inl rfl) rfl rfl (by exact QW.qr (qw_index_str rfl rfl (by decide) rfl)) ?_
  refine rg_q (.inl rfl) rfl rfl (by exact QW.qr (qw_val (v' := I 4) (qw_conv rfl) rfl)) ?_
  refine rg_q (.inl rfl) rfl rfl (by exact QW.qr (qw_val (v' := I 20) (qw_add rfl rfl) rfl)) ?_
  refine rg_q (.inl rfl) rfl rfl (by exact QW.qr (qw_assign rfl)) ?_
  refine rg_nil ?_
  refine qg_then ?_
  refine cg_ret ?_
  exact qg_end (.inl rfl) _ (.cons (.tmp rfl) (.nil)) _ (by repeat (first | exact List.Sublist.refl _ | exact List.nil_sublist _ | exact List.sublist_append_right _ _ | apply List.Sublist.cons_cons | apply List.Sublist.cons)) ⟨rfl, rfl⟩

theorem lz_ca (O : Out) (L : List Blk) :
    CA Try.prog 49 [U 1000000] O L fun v L' => v = I 44 ∧ L' = L := by
  refine ca_enter Try.func49 rfl rfl ?_
  rw [Try.ntmps49]
  simp only [envOf]
  refine cg_seq ?_
  refine cg_region ?_
  refine rg_q (.inl rfl) rfl rfl (by exact QW.qr (qw_assign rfl)) ?_
  refine rg_nil ?_
  refine qg_then ?_
  refine cg_seq ?_
  refine cg_region ?_
  refine rg_q (.inl rfl) rfl rfl (by exact QW.qr (qw_move rfl)) ?_
  refine rg_e (.inl rfl) rfl rfl (by exact ev_call0 rfl (.cons rfl (.nil)) (len64_ca O _)) ?_
  rintro _ _ ⟨rfl, rfl⟩
  refine rg_q (.inl rfl) rfl rfl (by exact QW.qr (qw_sub_in rfl rfl (by unfold inK; omega))) ?_
  refine rg_q (.inl rfl) rfl rfl (by exact QW.qr (qw_assign rfl)) ?_
  refine rg_nil ?_
  refine qg_then ?_
  refine cg_ret ?_
  exact qg_end (.inl rfl) _ (.cons (.tmp rfl) (.nil)) _ (by repeat (first | exact List.Sublist.refl _ | exact List.nil_sublist _ | exact List.sublist_append_right _ _ | apply List.Sublist.cons_cons | apply List.Sublist.cons)) ⟨rfl, rfl⟩

theorem div0_ca (lo : Int) (hl : isU64 lo) (O : Out) (L : List Blk) :
    CA Try.prog 48 [U 0, U lo, U 1000000] O L fun v L' => v = .tuple #[U (lo / 1000000), U (lo % 1000000)] ∧ L' = L := by
  unfold isU64 at hl
  refine ca_enter Try.func48 rfl rfl ?_
  rw [Try.ntmps48]
  simp only [envOf]
  refine cg_seq ?_
  refine cg_region ?_
  refine rg_q (.inl rfl) rfl rfl (by exact QW.qr (qw_assign rfl)) ?_
  refine rg_q (.inl rfl) rfl rfl (by exact QW.qr (qw_assign rfl)) ?_
  refine rg_nil ?_
  refine qg_then ?_
  refine cg_seq ?_
  refine cg_seq ?_
  refine cg_region ?_
  refine rg_q (.inl rfl) rfl rfl (by exact QW.qr (qw_move rfl)) ?_
  refine rg_q (.inl rfl) rfl rfl (by exact QW.qr (qw_eql_f rfl rfl (by decide))) ?_
  refine rg_nil ?_
  refine qg_then ?_
  refine cg_false rfl ?_
  refine cg_skip ?_
  refine qg_then ?_
  refine cg_seq ?_
  refine cg_seq ?_
  refine cg_region ?_
  refine rg_q (.inl rfl) rfl rfl (by exact QW.qr (qw_move rfl)) ?_
  refine rg_q (.inl rfl) rfl rfl (by exact QW.qr (qw_move rfl)) ?_
  refine rg_q (.inl rfl) rfl rfl (by exact QW.qr (qw_leq_f rfl rfl (by decide))) ?_
  refine rg_nil ?_
  refine qg_then ?_
  refine cg_false rfl ?_
  refine cg_skip ?_
  refine qg_then ?_
  refine cg_seq ?_
  refine cg_seq ?_
  refine cg_region ?_
  refine rg_q (.inl rfl) rfl rfl (by exact QW.qr (qw_move rfl)) ?_
  refine rg_q (.inl rfl) rfl rfl (by exact QW.qr (qw_eql_t rfl rfl (by decide))) ?_
  refine rg_nil ?_
  refine qg_then ?_
  refine cg_true rfl ?_
  refine cg_seq ?_
  refine cg_draw follows (.op 0 false (.op 1 false (.op 2 false (.op 3 false (.op 4 false (.op 5 false (.op 6 false (.op 7 false .done)))))))) _ (by kernel_rfl) (SubP.of (List.Sublist.refl _)) ?_
  refine dg_w rfl rfl (.inl rfl) rfl rfl (by exact qw_move rfl) ?_
  refine dg_w rfl rfl (.inl rfl) rfl rfl (by exact qw_move rfl) ?_
  refine dg_w rfl rfl (.inl rfl) rfl rfl (by exact qw_quo_pos rfl rfl (by omega) (by decide) (by unfold inK; omega)) ?_
  refine dg_w rfl rfl (.inl rfl) rfl rfl (by exact qw_move rfl) ?_
  refine dg_w rfl rfl (.inl rfl) rfl rfl (by exact qw_move rfl) ?_
  refine dg_w rfl rfl (.inl rfl) rfl rfl (by exact qw_rem_pos rfl rfl (by omega) (by decide)) ?_
  refine dg_w rfl rfl (.inl rfl) rfl rfl (by exact qw_assign rfl) ?_
  refine dg_w rfl rfl (.inl rfl) rfl rfl (by exact qw_assign rfl) ?_
  refine dg_nil ?_
  refine qg_then ?_
  refine cg_ret ?_
  refine qg_then_ret ?_
  exact qg_end (.inl rfl) _ (.cons (.tmp rfl) (.cons (.tmp rfl) (.nil))) _ (by repeat (first | exact List.Sublist.refl _ | exact List.nil_sublist _ | exact List.sublist_append_right _ _ | apply List.Sublist.cons_cons | apply List.Sublist.cons)) ⟨rfl, rfl⟩

theorem shr_lit (x : Int) (k : Nat) (hk : k ≤ 64) : shrF .u64 x (k : Nat) = x / 2 ^ k := by
  unfold shrF
  rw [Int.toNat_natCast, show IntKind.bits .u64 = 64 from rfl, Nat.min_eq_left hk]
  exact Int.fdiv_eq_ediv_of_nonneg _ (by exact_mod_cast Nat.zero_le _)
theorem andF_le (x : Int) : andF .u64 x 4294967295 ≤ 4294967295 := by
  unfold andF
  show IntKind.wrap .u64 ((BitVec.ofInt 64 x &&& BitVec.ofInt 64 4294967295).toNat : Int) ≤ _
  have h : (BitVec.ofInt 64 x &&& BitVec.ofInt 64 4294967295).toNat ≤ 4294967295 := by
    rw [BitVec.toNat_and]
    exact Nat.le_trans Nat.and_le_right (by decide)
  rw [wrap_u64]
  omega
theorem andF_range (x y : Int) : 0 ≤ andF .u64 x y ∧ andF .u64 x y ≤ 18446744073709551615 := wrap_u64_range _

theorem div1_ca (hi lo : Int) (h0 : 0 < hi) (h1 : hi < 1000000) (hl : isU64 lo) : ∃ q r, isU64 q ∧ ∀ (O : Out) (L : List Blk),
    CA Try.prog 48 [U hi, U lo, U 1000000] O L fun v L' => v = .tuple #[U q, U r] ∧ L' = L := by
  unfold isU64 at hl
  have hor := or_disjoint (a := hi) (b := lo / 1048576) (by omega) (by omega) (by omega) (by omega)
  obtain ⟨un32, hun⟩ : ∃ u, u = hi * 17592186044416 + lo / 1048576 := ⟨_, rfl⟩
  obtain ⟨q1, hq1⟩ : ∃ u, u = un32 / 4096000000 := ⟨_, rfl⟩
  obtain ⟨rhat, hrh⟩ : ∃ u, u = un32 - q1 * 4096000000 := ⟨_, rfl⟩
  obtain ⟨un10, hu10⟩ : ∃ u, u = (lo * 17592186044416) % 18446744073709551616 := ⟨_, rfl⟩
  obtain ⟨un1, hu1⟩ : ∃ u, u = un10 / 4294967296 := ⟨_, rfl⟩
  obtain ⟨un0, hu0, hu0'⟩ : ∃ u, u = andF .u64 un10 4294967295 ∧ 0 ≤ u := ⟨_, rfl, (andF_range _ _).1⟩
  obtain ⟨un21, hu21⟩ : ∃ u, u = rhat * 4294967296 + un1 := ⟨_, rfl⟩
  obtain ⟨q0, hq0⟩ : ∃ u, u = un21 / 4096000000 := ⟨_, rfl⟩
  obtain ⟨rh2, hrh2⟩ : ∃ u, u = un21 - q0 * 4096000000 := ⟨_, rfl⟩
  rw [← hun] at hor
  apply Exists.intro
  apply Exists.intro
  apply And.intro
  rotate_left
  intro O L
  refine ca_enter Try.func48 rfl rfl ?_
  rw [Try.ntmps48]
  simp only [envOf]
  refine cg_seq ?_
  refine cg_region ?_
  refine rg_q (.inl rfl) rfl rfl (by exact QW.qr (qw_assign rfl)) ?_
  refine rg_q (.inl rfl) rfl rfl (by exact QW.qr (qw_assign rfl)) ?_
  refine rg_nil ?_
  refine qg_then ?_
  refine cg_seq ?_
  refine cg_seq ?_
  refine cg_region ?_
  refine rg_q (.inl rfl) rfl rfl (by exact QW.qr (qw_move rfl)) ?_
  refine rg_q (.inl rfl) rfl rfl (by exact QW.qr (qw_eql_f rfl rfl (by decide))) ?_
  refine rg_nil ?_
  refine qg_then ?_
  refine cg_false rfl ?_
  refine cg_skip ?_
  refine qg_then ?_
  refine cg_seq ?_
  refine cg_seq ?_
  refine cg_region ?_
  refine rg_q (.inl rfl) rfl rfl (by exact QW.qr (qw_move rfl)) ?_
  refine rg_q (.inl rfl) rfl rfl (by exact QW.qr (qw_move rfl)) ?_
  refine rg_q (.inl rfl) rfl rfl (by exact QW.qr (qw_leq_f rfl rfl (by omega))) ?_
  refine rg_nil ?_
  refine qg_then ?_
  refine cg_false rfl ?_
  refine cg_skip ?_
  refine qg_then ?_
  refine cg_seq ?_
  refine cg_seq ?_
  refine cg_region ?_
  refine rg_q (.inl rfl) rfl rfl (by exact QW.qr (qw_move rfl)) ?_
  refine rg_q (.inl rfl) rfl rfl (by exact QW.qr (qw_eql_f rfl rfl (by omega))) ?_
  refine rg_nil ?_
  refine qg_then ?_
  refine cg_false rfl ?_
  refine cg_skip ?_
  refine qg_then ?_
  refine cg_seq ?_
  refine cg_region ?_
  refine rg_q (.inl rfl) rfl rfl (by exact QW.qr (qw_move rfl)) ?_
  refine rg_e (.inl rfl) rfl rfl (by exact ev_call0 rfl (.cons rfl (.nil)) (lz_ca O _)) ?_
  rintro _ _ ⟨rfl, rfl⟩
  refine rg_q (.inl rfl) rfl rfl (by exact QW.qr (qw_val (v' := U 44) (qw_conv rfl) rfl)) ?_
  refine rg_q (.inl rfl) rfl rfl (by exact QW.qr (qw_assign rfl)) ?_
  refine rg_nil ?_
  refine qg_then ?_
  refine cg_seq ?_
  refine cg_region ?_
  refine rg_q (.inl rfl) rfl rfl (by exact QW.qr (qw_move rfl)) ?_
  refine rg_q (.inl rfl) rfl rfl (by exact QW.qr (qw_move rfl)) ?_
  refine rg_q (.inl rfl) rfl rfl (by exact QW.qr (qw_val (v' := U 17592186044416000000) (qw_shl rfl rfl (by decide)) rfl)) ?_
  refine rg_q (.inl rfl) rfl rfl (by exact QW.qr (qw_assign rfl)) ?_
  refine rg_nil ?_
  refine qg_then ?_
  refine cg_seq ?_
  refine cg_region ?_
  refine rg_q (.inl rfl) rfl rfl (by exact QW.qr (qw_move rfl)) ?_
  refine rg_q (.inl rfl) rfl rfl (by exact QW.qr (qw_val (v' := U 4096000000) (qw_shr rfl rfl (by decide)) rfl)) ?_
  refine rg_q (.inl rfl) rfl rfl (by exact QW.qr (qw_assign rfl)) ?_
  refine rg_nil ?_
  refine qg_then ?_
  refine cg_seq ?_
  refine cg_region ?_
  refine rg_q (.inl rfl) rfl rfl (by exact QW.qr (qw_move rfl)) ?_
  refine rg_q (.inl rfl) rfl rfl (by exact QW.qr (qw_val (v' := U 0) (qw_and rfl rfl) rfl)) ?_
  refine rg_q (.inl rfl) rfl rfl (by exact QW.qr (qw_assign rfl)) ?_
  refine rg_nil ?_
  refine qg_then ?_
  refine cg_seq ?_
  refine cg_region ?_
  refine rg_q (.inl rfl) rfl rfl (by exact QW.qr (qw_move rfl)) ?_
  refine rg_q (.inl rfl) rfl rfl (by exact QW.qr (qw_move rfl)) ?_
  refine rg_q (.inl rfl) rfl rfl (by exact QW.qr (qw_shl rfl rfl (by decide))) ?_
  refine rg_q (.inl rfl) rfl rfl (by exact QW.qr (qw_move rfl)) ?_
  refine rg_q (.inl rfl) rfl rfl (by exact QW.qr (qw_move rfl)) ?_
  refine rg_q (.inl rfl) rfl rfl (by exact QW.qr (qw_val (v' := U 20) (qw_sub rfl rfl) rfl)) ?_
  refine rg_q (.inl rfl) rfl rfl (by exact QW.qr (qw_val (v' := U (lo / 1048576)) (qw_shr rfl rfl (by decide)) (congrArg U (shr_lit lo 20 (by decide))))) ?_
  refine rg_q (.inl rfl) rfl rfl (by exact QW.qr (qw_val (v' := U un32) (qw_or rfl rfl) (congrArg U hor))) ?_
  refine rg_q (.inl rfl) rfl rfl (by exact QW.qr (qw_assign rfl)) ?_
  refine rg_nil ?_
  refine qg_then ?_
  refine cg_seq ?_
  refine cg_region ?_
  refine rg_q (.inl rfl) rfl rfl (by exact QW.qr (qw_move rfl)) ?_
  refine rg_q (.inl rfl) rfl rfl (by exact QW.qr (qw_move rfl)) ?_
  refine rg_q (.inl rfl) rfl rfl (by exact QW.qr (qw_val (v' := U un10) (qw_shl rfl rfl (by decide)) (congrArg U (by rw [hu10]; rfl)))) ?_
  refine rg_q (.inl rfl) rfl rfl (by exact QW.qr (qw_assign rfl)) ?_
  refine rg_nil ?_
  refine qg_then ?_
  refine cg_seq ?_
  refine cg_region ?_
  refine rg_q (.inl rfl) rfl rfl (by exact QW.qr (qw_move rfl)) ?_
  refine rg_q (.inl rfl) rfl rfl (by exact QW.qr (qw_val (v' := U un1) (qw_shr rfl rfl (by decide)) (congrArg U (by rw [hu1]; exact shr_lit un10 32 (by decide))))) ?_
  refine rg_q (.inl rfl) rfl rfl (by exact QW.qr (qw_assign rfl)) ?_
  refine rg_nil ?_
  refine qg_then ?_
  refine cg_seq ?_
  refine cg_region ?_
  refine rg_q (.inl rfl) rfl rfl (by exact QW.qr (qw_move rfl)) ?_
  refine rg_q (.inl rfl) rfl rfl (by exact QW.qr (qw_val (v' := U un0) (qw_and rfl rfl) (congrArg U hu0.symm))) ?_
  refine rg_q (.inl rfl) rfl rfl (by exact QW.qr (qw_assign rfl)) ?_
  refine rg_nil ?_
  refine qg_then ?_
  refine cg_seq ?_
  refine cg_region ?_
  refine rg_q (.inl rfl) rfl rfl (by exact QW.qr (qw_move rfl)) ?_
  refine rg_q (.inl rfl) rfl rfl (by exact QW.qr (qw_move rfl)) ?_
  refine rg_q (.inl rfl) rfl rfl (by exact QW.qr (qw_val (v' := U q1) (qw_quo_pos rfl rfl (by omega) (by decide) (by unfold inK; omega)) (congrArg U hq1.symm))) ?_
  refine rg_q (.inl rfl) rfl rfl (by exact QW.qr (qw_assign rfl)) ?_
  refine rg_nil ?_
  refine qg_then ?_
  refine cg_seq ?_
  refine cg_region ?_
  refine rg_q (.inl rfl) rfl rfl (by exact QW.qr (qw_move rfl)) ?_
  refine rg_q (.inl rfl) rfl rfl (by exact QW.qr (qw_move rfl)) ?_
  refine rg_q (.inl rfl) rfl rfl (by exact QW.qr (qw_move rfl)) ?_
  refine rg_q (.inl rfl) rfl rfl (by exact QW.qr (qw_mul_in rfl rfl (by unfold inK; omega))) ?_
  refine rg_q (.inl rfl) rfl rfl (by exact QW.qr (qw_val (v' := U rhat) (qw_sub_in rfl rfl (by unfold inK; omega)) (congrArg U hrh.symm))) ?_
  refine rg_q (.inl rfl) rfl rfl (by exact QW.qr (qw_assign rfl)) ?_
  refine rg_nil ?_
  refine qg_then ?_
  refine cg_seq ?_
  refine cg_block ?_
  refine cg_loop (fun E' L' m => E' = _ ∧ L' = _ ∧ m = 0) _ _ _ ⟨rfl, rfl, rfl⟩ Sub.refl (List.Perm.refl _) ?_
  rintro _ _ _ ⟨rfl, rfl, rfl⟩
  refine cg_seq ?_
  refine cg_seq ?_
  refine cg_region ?_
  refine rg_q (.inl rfl) rfl rfl (by exact QW.qr (qw_move rfl)) ?_
  refine rg_q (.inl rfl) rfl rfl (by exact QW.qr (qw_geq_f rfl rfl (by omega))) ?_
  refine rg_q (.inl rfl) rfl rfl (by exact QW.qr (qw_move rfl)) ?_
  refine rg_q (.inr (guard_mk rfl rfl rfl rfl)) rfl rfl (by exact QW.qr (qw_move rfl)) ?_
  refine rg_q (.inr (guard_mk rfl rfl rfl rfl)) rfl rfl (by exact QW.qr (qw_move rfl)) ?_
  refine rg_q (.inr (guard_mk rfl rfl rfl rfl)) rfl rfl (by exact QW.qr (qw_val (v' := U 0) (qw_mul rfl rfl) (congrArg U (by rw [Int.mul_zero]; rfl)))) ?_
  refine rg_q (.inr (guard_mk rfl rfl rfl rfl)) rfl rfl (by exact QW.qr (qw_move rfl)) ?_
  refine rg_q (.inr (guard_mk rfl rfl rfl rfl)) rfl rfl (by exact QW.qr (qw_mul_in rfl rfl (by unfold inK; omega))) ?_
  refine rg_q (.inr (guard_mk rfl rfl rfl rfl)) rfl rfl (by exact QW.qr (qw_move rfl)) ?_
  refine rg_q (.inr (guard_mk rfl rfl rfl rfl)) rfl rfl (by exact QW.qr (qw_add_in rfl rfl (by unfold inK; omega))) ?_
  refine rg_q (.inr (guard_mk rfl rfl rfl rfl)) rfl rfl (by exact QW.qr (qw_gtr_f rfl rfl (by omega))) ?_
  refine rg_q (.inl rfl) rfl rfl (by exact QW.qr (qw_pick_f rfl rfl)) ?_
  refine rg_nil ?_
  refine qg_then ?_
  refine cg_false rfl ?_
  refine cg_exit ?_
  refine qg_then_exit ?_
  refine qg_then_exit ?_
  refine qg_block_here ?_
  refine qg_then ?_
  refine cg_seq ?_
  refine cg_region ?_
  refine rg_q (.inl rfl) rfl rfl (by exact QW.qr (qw_move rfl)) ?_
  refine rg_q (.inl rfl) rfl rfl (by exact QW.qr (qw_mul rfl rfl)) ?_
  refine rg_q (.inl rfl) rfl rfl (by exact QW.qr (qw_move rfl)) ?_
  refine rg_q (.inl rfl) rfl rfl (by exact QW.qr (qw_add rfl rfl)) ?_
  refine rg_q (.inl rfl) rfl rfl (by exact QW.qr (qw_move rfl)) ?_
  refine rg_q (.inl rfl) rfl rfl (by exact QW.qr (qw_move rfl)) ?_
  refine rg_q (.inl rfl) rfl rfl (by exact QW.qr (qw_mul rfl rfl)) ?_
  refine rg_q (.inl rfl) rfl rfl (by exact QW.qr (qw_val (v' := U un21) (qw_sub rfl rfl) (congrArg U (by simp only [wrap_u64]; omega)))) ?_
  refine rg_q (.inl rfl) rfl rfl (by exact QW.qr (qw_assign rfl)) ?_
  refine rg_nil ?_
  refine qg_then ?_
  refine cg_seq ?_
  refine cg_region ?_
  refine rg_q (.inl rfl) rfl rfl (by exact QW.qr (qw_move rfl)) ?_
  refine rg_q (.inl rfl) rfl rfl (by exact QW.qr (qw_move rfl)) ?_
  refine rg_q (.inl rfl) rfl rfl (by exact QW.qr (qw_val (v' := U q0) (qw_quo_pos rfl rfl (by omega) (by decide) (by unfold inK; omega)) (congrArg U hq0.symm))) ?_
  refine rg_q (.inl rfl) rfl rfl (by exact QW.qr (qw_assign rfl)) ?_
  refine rg_nil ?_
  refine qg_then ?_
  refine cg_seq ?_
  refine cg_region ?_
  refine rg_q (.inl rfl) rfl rfl (by exact QW.qr (qw_move rfl)) ?_
  refine rg_q (.inl rfl) rfl rfl (by exact QW.qr (qw_move rfl)) ?_
  refine rg_q (.inl rfl) rfl rfl (by exact QW.qr (qw_move rfl)) ?_
  refine rg_q (.inl rfl) rfl rfl (by exact QW.qr (qw_mul_in rfl rfl (by unfold inK; omega))) ?_
  refine rg_q (.inl rfl) rfl rfl (by exact QW.qr (qw_val (v' := U rh2) (qw_sub_in rfl rfl (by unfold inK; omega)) (congrArg U hrh2.symm))) ?_
  refine rg_q (.inl rfl) rfl rfl (by exact QW.qr (qw_assign rfl)) ?_
  refine rg_nil ?_
  refine qg_then ?_
  refine cg_seq ?_
  refine cg_block ?_
  refine cg_loop (fun E' L' m => E' = _ ∧ L' = _ ∧ m = 0) _ _ _ ⟨rfl, rfl, rfl⟩ Sub.refl (List.Perm.refl _) ?_
  rintro _ _ _ ⟨rfl, rfl, rfl⟩
  refine cg_seq ?_
  refine cg_seq ?_
  refine cg_region ?_
  refine rg_q (.inl rfl) rfl rfl (by exact QW.qr (qw_move rfl)) ?_
  refine rg_q (.inl rfl) rfl rfl (by exact QW.qr (qw_geq_f rfl rfl (by omega))) ?_
  refine rg_q (.inl rfl) rfl rfl (by exact QW.qr (qw_move rfl)) ?_
  refine rg_q (.inr (guard_mk rfl rfl rfl rfl)) rfl rfl (by exact QW.qr (qw_move rfl)) ?_
  refine rg_q (.inr (guard_mk rfl rfl rfl rfl)) rfl rfl (by exact QW.qr (qw_move rfl)) ?_
  refine rg_q (.inr (guard_mk rfl rfl rfl rfl)) rfl rfl (by exact QW.qr (qw_val (v' := U 0) (qw_mul rfl rfl) (congrArg U (by rw [Int.mul_zero]; rfl)))) ?_
  refine rg_q (.inr (guard_mk rfl rfl rfl rfl)) rfl rfl (by exact QW.qr (qw_move rfl)) ?_
  refine rg_q (.inr (guard_mk rfl rfl rfl rfl)) rfl rfl (by exact QW.qr (qw_mul_in rfl rfl (by unfold inK; omega))) ?_
  refine rg_q (.inr (guard_mk rfl rfl rfl rfl)) rfl rfl (by exact QW.qr (qw_move rfl)) ?_
  refine rg_q (.inr (guard_mk rfl rfl rfl rfl)) rfl rfl (by exact QW.qr (qw_add_in rfl rfl (by unfold inK; have := andF_le un10; rw [← hu0] at this; omega))) ?_
  refine rg_q (.inr (guard_mk rfl rfl rfl rfl)) rfl rfl (by exact QW.qr (qw_gtr_f rfl rfl (by omega))) ?_
  refine rg_q (.inl rfl) rfl rfl (by exact QW.qr (qw_pick_f rfl rfl)) ?_
  refine rg_nil ?_
  refine qg_then ?_
  refine cg_false rfl ?_
  refine cg_exit ?_
  refine qg_then_exit ?_
  refine qg_then_exit ?_
  refine qg_block_here ?_
  refine qg_then ?_
  refine cg_seq ?_
  refine cg_region ?_
  refine rg_q (.inl rfl) rfl rfl (by exact QW.qr (qw_move rfl)) ?_
  refine rg_q (.inl rfl) rfl rfl (by exact QW.qr (qw_mul rfl rfl)) ?_
  refine rg_q (.inl rfl) rfl rfl (by exact QW.qr (qw_move rfl)) ?_
  refine rg_q (.inl rfl) rfl rfl (by exact QW.qr (qw_add rfl rfl)) ?_
  refine rg_q (.inl rfl) rfl rfl (by exact QW.qr (qw_move rfl)) ?_
  refine rg_q (.inl rfl) rfl rfl (by exact QW.qr (qw_mul rfl rfl)) ?_
  refine rg_q (.inl rfl) rfl rfl (by exact QW.qr (qw_move rfl)) ?_
  refine rg_q (.inl rfl) rfl rfl (by exact QW.qr (qw_add rfl rfl)) ?_
  refine rg_q (.inl rfl) rfl rfl (by exact QW.qr (qw_move rfl)) ?_
  refine rg_q (.inl rfl) rfl rfl (by exact QW.qr (qw_move rfl)) ?_
  refine rg_q (.inl rfl) rfl rfl (by exact QW.qr (qw_mul rfl rfl)) ?_
  refine rg_q (.inl rfl) rfl rfl (by exact QW.qr (qw_sub rfl rfl)) ?_
  refine rg_q (.inl rfl) rfl rfl (by exact QW.qr (qw_move rfl)) ?_
  refine rg_q (.inl rfl) rfl rfl (by exact QW.qr (qw_shr rfl rfl (by decide))) ?_
  refine rg_q (.inl rfl) rfl rfl (by exact QW.qr (qw_assign rfl)) ?_
  refine rg_q (.inl rfl) rfl rfl (by exact QW.qr (qw_assign rfl)) ?_
  refine rg_nil ?_
  refine qg_then ?_
  refine cg_ret ?_
  exact qg_end (.inl rfl) _ (.cons (.tmp rfl) (.cons (.tmp rfl) (.nil))) _ (by repeat (first | exact List.Sublist.refl _ | exact List.nil_sublist _ | exact List.sublist_append_right _ _ | apply List.Sublist.cons_cons | apply List.Sublist.cons)) ⟨rfl, rfl⟩
  exact wrap_u64_range _

theorem part_walk (a m hi lo q e : Int) (hmul : ∀ (O : Out) (L : List Blk), CA Try.prog 47 [U a, U m] O L fun v L' => v = .tuple #[U hi, U lo] ∧ L' = L)
    (hy : hi ≥ 1000000 → q = 0 ∧ e = 11) (hn : ¬ hi ≥ 1000000 → e = 0 ∧ ∃ r, ∀ (O : Out) (L : List Blk), CA Try.prog 48 [U hi, U lo, U 1000000] O L fun v L' => v = .tuple #[U q, U r] ∧ L' = L) (O : Out) (L : List Blk) :
    CA Try.prog 46 [U a, U m, U 1000000] O L fun v L' => v = .tuple #[U q, I e] ∧ L' = L := by
  refine ca_enter Try.func46 rfl rfl ?_
  rw [Try.ntmps46]
  simp only [envOf]
  refine cg_seq ?_
  refine cg_region ?_
  refine rg_q (.inl rfl) rfl rfl (by exact QW.qr (qw_assign rfl)) ?_
  refine rg_q (.inl rfl) rfl rfl (by exact QW.qr (qw_assign rfl)) ?_
  refine rg_nil ?_
  refine qg_then ?_
  refine cg_seq ?_
  refine cg_region ?_
  refine rg_q (.inl rfl) rfl rfl (by exact QW.qr (qw_move rfl)) ?_
  refine rg_q (.inl rfl) rfl rfl (by exact QW.qr (qw_move rfl)) ?_
  refine rg_e (.inl rfl) rfl rfl (by exact ev_call0 rfl (.cons rfl (.cons rfl (.nil))) (hmul O _)) ?_
  rintro _ _ ⟨rfl, rfl⟩
  refine rg_q (.inl rfl) rfl rfl (by exact QW.qr (qw_move rfl)) ?_
  refine rg_q (.inl rfl) rfl rfl (by exact QW.qr (qw_extract rfl rfl)) ?_
  refine rg_q (.inl rfl) rfl rfl (by exact QW.qr (qw_extract rfl rfl)) ?_
  refine rg_q (.inl rfl) rfl rfl (by exact QW.qr (qw_assign rfl)) ?_
  refine rg_q (.inl rfl) rfl rfl (by exact QW.qr (qw_assign rfl)) ?_
  refine rg_nil ?_
  refine qg_then ?_
  refine cg_seq ?_
  refine cg_block ?_
  refine cg_seq ?_
  refine cg_region ?_
  refine rg_q (.inl rfl) rfl rfl (by exact QW.qr (qw_move rfl)) ?_
  refine rg_q (.inl rfl) rfl rfl (by exact QW.qr (qw_eql_f rfl rfl (by decide))) ?_
  refine rg_q (.inl rfl) rfl rfl (by exact QW.qr (qw_assign rfl)) ?_
  refine rg_nil ?_
  refine qg_then ?_
  refine cg_false rfl ?_
  refine cg_seq ?_
  refine cg_region ?_
  refine rg_q (.inl rfl) rfl rfl (by exact QW.qr (qw_move rfl)) ?_
  refine rg_q (.inl rfl) rfl rfl (by exact QW.qr (qw_move rfl)) ?_
  refine rg_split (.inl rfl) rfl rfl (by exact qc_geq rfl rfl) ?_ ?_
  · intro hc
    obtain ⟨rfl, rfl⟩ := hy hc
    refine rg_q (.inl rfl) rfl rfl (by exact QW.qr (qw_assign rfl)) ?_
    refine rg_nil ?_
    refine qg_then ?_
    refine cg_true rfl ?_
    refine cg_seq ?_
    refine cg_region ?_
    refine rg_q (.inl rfl) rfl rfl (by exact QW.qr (qw_assign rfl)) ?_
    refine rg_q (.inl rfl) rfl rfl (by exact QW.qr (qw_assign rfl)) ?_
    refine rg_nil ?_
    refine qg_then ?_
    refine cg_ret ?_
    refine qg_block_ret ?_
    refine qg_then_ret ?_
    exact qg_end (.inl rfl) _ (.cons (.tmp rfl) (.cons (.tmp rfl) (.nil))) _ (by repeat (first | exact List.Sublist.refl _ | exact List.nil_sublist _ | exact List.sublist_append_right _ _ | apply List.Sublist.cons_cons | apply List.Sublist.cons)) ⟨rfl, rfl⟩
  · intro hc
    obtain ⟨rfl, r, hd⟩ := hn hc
    refine rg_q (.inl rfl) rfl rfl (by exact QW.qr (qw_assign rfl)) ?_
    refine rg_nil ?_
    refine qg_then ?_
    refine cg_false rfl ?_
    refine cg_skip ?_
    refine qg_block ?_
    refine qg_then ?_
    refine cg_seq ?_
    refine cg_region ?_
    refine rg_q (.inl rfl) rfl rfl (by exact QW.qr (qw_move rfl)) ?_
    refine rg_q (.inl rfl) rfl rfl (by exact QW.qr (qw_move rfl)) ?_
    refine rg_q (.inl rfl) rfl rfl (by exact QW.qr (qw_move rfl)) ?_
    refine rg_e (.inl rfl) rfl rfl (by exact ev_call0 rfl (.cons rfl (.cons rfl (.cons rfl (.nil)))) (hd O _)) ?_
    rintro _ _ ⟨rfl, rfl⟩
    refine rg_q (.inl rfl) rfl rfl (by exact QW.qr (qw_move rfl)) ?_
    refine rg_q (.inl rfl) rfl rfl (by exact QW.qr (qw_extract rfl rfl)) ?_
    refine rg_q (.inl rfl) rfl rfl (by exact QW.qr (qw_extract rfl rfl)) ?_
    refine rg_q (.inl rfl) rfl rfl (by exact QW.qr (qw_assign rfl)) ?_
    refine rg_q (.inl rfl) rfl rfl (by exact QW.qr (qw_assign rfl)) ?_
    refine rg_nil ?_
    refine qg_then ?_
    refine cg_seq ?_
    refine cg_region ?_
    refine rg_q (.inl rfl) rfl rfl (by exact QW.qr (qw_move rfl)) ?_
    refine rg_q (.inl rfl) rfl rfl (by exact QW.qr (qw_assign rfl)) ?_
    refine rg_q (.inl rfl) rfl rfl (by exact QW.qr (qw_assign rfl)) ?_
    refine rg_nil ?_
    refine qg_then ?_
    refine cg_ret ?_
    exact qg_end (.inl rfl) _ (.cons (.tmp rfl) (.cons (.tmp rfl) (.nil))) _ (by repeat (first | exact List.Sublist.refl _ | exact List.nil_sublist _ | exact List.sublist_append_right _ _ | apply List.Sublist.cons_cons | apply List.Sublist.cons)) ⟨rfl, rfl⟩

theorem part_ca (a m : Int) : ∃ q e : Int, (isU64 q ∧ (a = 5 → m = 0 → q = 0 ∧ e = 0)) ∧ ∀ (O : Out) (L : List Blk),
    CA Try.prog 46 [U a, U m, U 1000000] O L fun v L' => v = .tuple #[U q, I e] ∧ L' = L := by
  obtain ⟨hi, lo, ⟨hhi, hlo, hz⟩, hmul⟩ := mul64_ca a m
  suffices hs : ∃ q e : Int, (isU64 q ∧ (a = 5 → m = 0 → q = 0 ∧ e = 0)) ∧ (hi ≥ 1000000 → q = 0 ∧ e = 11) ∧ (¬ hi ≥ 1000000 → e = 0 ∧ ∃ r, ∀ (O : Out) (L : List Blk), CA Try.prog 48 [U hi, U lo, U 1000000] O L fun v L' => v = .tuple #[U q, U r] ∧ L' = L) by
    obtain ⟨q, e, hq, hy, hn⟩ := hs
    refine ⟨q, e, hq, fun O L => ?_⟩
    exact part_walk a m hi lo q e hmul hy hn O L
  unfold isU64 at hhi
  by_cases h : hi ≥ 1000000
  · exact ⟨0, 11, ⟨⟨by decide, by decide⟩, fun h1 h2 => by have := hz h1 h2; omega⟩, fun _ => ⟨rfl, rfl⟩, fun h2 => absurd h h2⟩
  · by_cases h0 : hi = 0
    · subst h0
      unfold isU64 at hlo
      exact ⟨lo / 1000000, 0, ⟨⟨by omega, by omega⟩, fun h1 h2 => by have := hz h1 h2; omega⟩, fun h2 => absurd h2 h, fun _ => ⟨rfl, _, fun O L => div0_ca lo hlo O L⟩⟩
    · obtain ⟨q, r, hq, hd⟩ := div1_ca hi lo (by omega) (by omega) hlo
      exact ⟨q, 0, ⟨hq, fun h1 h2 => by have := hz h1 h2; omega⟩, fun h2 => absurd h2 h, fun _ => ⟨rfl, r, hd⟩⟩

end Go.Proofs.Ytjimpciiaceleaa