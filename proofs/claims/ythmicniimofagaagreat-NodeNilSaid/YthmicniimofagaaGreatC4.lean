/-
  THE STATEMENT NodeNil: whatever comes in, it answers true, and leaves what was there as it was. Condition: none beside the row's own.
-/
import Derived.Test.YthmicniimofagaaGreatC3
import Derived.Test.YthmicniimofagaaGreatRows
import Derived.WalkKit
import Derived.ProofKit
import Derived.OpenShut
import Derived.Deep.Strs
import Derived.ShutString
import Derived.ChangeOld
import Derived.Below
namespace Go.Proofs.YthmicniimofagaaGreat
open Fw
open Go.ChangeShapes Go.WideShapes Go.ChangeAt Go.RowKit
open Go.Proofs (encStr)
set_option linter.unusedVariables false
set_option maxRecDepth 100000

theorem ps_own : ownKnob Tryz.prog.godebug = none := by kernel_rfl
theorem ps_laidOut : laidOutB Tryz.prog = true := by kernel_rfl
theorem arr32_of {b0 : Nat} {W : World} {r : Reach} {v : Value} (hval : Value.okWide Tryz.prog W r b0 22 v) : ∃ sl : List Value, v = .agg sl.toArray ∧ sl.length = 32 := by
  unfold Value.okWide at hval
  rw [Tryz.underlying22] at hval
  obtain ⟨cs, rfl, hsz, _⟩ := hval
  refine ⟨cs.toList, by rw [Array.toArray_toList], ?_⟩
  rw [Array.length_toList, hsz]
  kernel_rfl

theorem nil_lifted (os : Os) (started : os.Started) (H : Type) (enc : TypeId × Value → H) :
    ReturnsInHanded {} Tryz.checked os 4 .any (Rows.nodeNilSpec.pre6 enc Tryz.prog Tryz.f4 Rows.nodeNilRow.domain false) (Rows.nodeNilSpec.post enc Tryz.prog Tryz.f4 false true false false) := by
  refine returnsInHanded_of_change (C := Tryz.checked) ps_own started (by kernel_rfl) Tryz.func4
    (ChangeSpec.witness6 (enc := enc) (C := Tryz.checked) false ⟨#[], #[.int .u32 0, .agg (Array.replicate 32 (.int .u8 0)), .slice none 0 0], []⟩ 8 (by kernel_rfl) (by kernel_rfl) (by kernel_rfl) (by kernel_rfl)) ?_
  intro W base args ds gs before hval0 hW hcnd _
  have hval : ∀ (j : Nat) t v, Tryz.f4.params[j]? = some t → args[j]? = some v → Value.okWide Tryz.prog W .any base t v := hval0
  have hW' := hW
  obtain ⟨p, q, hA0, hV, rfl, hfz, hnd⟩ := hW
  have hA : DataW.TrodAll enc Tryz.prog W 0 (fun _ => true) true Tryz.f4.params.toList args.toList ds p := hA0
  rw [Tryz.params4] at hA hval
  obtain ⟨v0, vs0, d0, ds0, p0, q0, hargs, rfl, rfl, h0, r0⟩ := trodAll_cons hA
  obtain ⟨v1, vs1, d1, ds1, p1, q1, rfl, rfl, rfl, h1, r1⟩ := trodAll_cons r0
  obtain ⟨v2, vs2, d2, ds2, p2, q2, rfl, rfl, rfl, h2, r2⟩ := trodAll_cons r1
  obtain ⟨rfl, rfl, rfl⟩ := trodAll_nil r2
  obtain rfl : args = #[v0, v1, v2] := by cases args; simp_all
  obtain ⟨rfl, rfl⟩ := trodVars_none hV
  have lt0 : ∀ x ∈ p0, x.block < W.heap.size := by obtain ⟨m, hm⟩ := id h0; exact DataW.trod_lt m _ _ _ hm
  have lt1 : ∀ x ∈ p1, x.block < W.heap.size := by obtain ⟨m, hm⟩ := id h1; exact DataW.trod_lt m _ _ _ hm
  have lt2 : ∀ x ∈ p2, x.block < W.heap.size := by obtain ⟨m, hm⟩ := id h2; exact DataW.trod_lt m _ _ _ hm
  obtain ⟨sl, rfl, hsl⟩ := arr32_of (hval 1 22 v1 rfl rfl)
  clear hA0 hval0
  have hw := nodeNil_ca v0 v2 sl hsl (outOf W) (allBlks W)
  refine (hw W (has_allBlks W)).mono fun e W' ⟨v, L', he', ⟨hv, hL⟩, hH⟩ => ?_
  subst he' hv hL
  have bel := below_allBlks hH
  exact ⟨_, rfl, _, _, _, [], _, [], hW', trodAll_mk1 (shut_bool Tryz.underlying4 _), (trodAll_cons_mk (Below.trod ps_laidOut (by kernel_rfl) (of_decide_eq_true (by kernel_rfl)) h0 bel lt0) (trodAll_cons_mk (Below.trod ps_laidOut (by kernel_rfl) (of_decide_eq_true (by kernel_rfl)) h1 bel lt1) (trodAll_cons_mk (Below.trod ps_laidOut (by kernel_rfl) (of_decide_eq_true (by kernel_rfl)) h2 bel lt2) trodAll_mk0))), rfl, bel.frame _, fun h => by cases h⟩

theorem nil_over : Rows.nodeNilRow.holds Tryz.pinned (OpenSpec.ofChange Rows.nodeNilSpec) :=
  OpenClaim.holds_of_wide 4 Tryz.f4 rfl rfl rfl rfl rfl rfl rfl ⟨rfl, rfl, rfl, rfl, rfl⟩ rfl rfl rfl rfl rfl (by kernel_rfl) Tryz.func4 (by kernel_rfl)
    (of_decide_eq_true (by kernel_rfl)) (by unfold Func.isWrapper; first | (rw [if_pos (by decide +kernel)]; kernel_rfl) | (rw [if_neg (by decide +kernel)]; exact ⟨rfl, rfl⟩))
    (fun os started H enc _ => nil_lifted os started H enc)

/-- THE STATEMENT. -/
theorem nodeNil_proved : Rows.NodeNilSaid := nil_over
#print axioms nodeNil_proved
end Go.Proofs.YthmicniimofagaaGreat