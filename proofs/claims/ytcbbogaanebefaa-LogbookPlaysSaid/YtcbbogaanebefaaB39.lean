/-
  THE STATEMENT LogbookPlays: whatever comes in, it answers true, and leaves what was there as it was. Condition: none beside the row's own.
-/
import Derived.Test.YtcbbogaanebefaaB38
import Derived.Test.YtcbbogaanebefaaB23
namespace Go.Proofs.Ytcbbogaanebefaa
open Fw
open Go.ChangeShapes Go.WideShapes Go.ChangeAt Go.RowKit
open Go.Proofs (encStr)
set_option linter.unusedVariables false
set_option maxRecDepth 100000


theorem playsRow_lifted (os : Os) (started : os.Started) (H : Type) (enc : TypeId × Value → H) :
    ReturnsInHanded {} Try.checked os 6 .any (Rows.logbookPlaysSpec.pre6 enc Try.prog Try.f6 Rows.logbookPlaysRow.domain false) (Rows.logbookPlaysSpec.post enc Try.prog Try.f6 false true false false) := by
  refine returnsInHanded_of_change (C := Try.checked) ps_own started (by kernel_rfl) Try.func6
    (ChangeSpec.witness6 (enc := enc) (C := Try.checked) false ⟨#[], #[.slice none 0 0], []⟩ 8 (by kernel_rfl) (by kernel_rfl) (by kernel_rfl) (by kernel_rfl)) ?_
  intro W base args ds gs before hval0 hW hcnd _
  have hval : ∀ (j : Nat) t v, Try.f6.params[j]? = some t → args[j]? = some v → Value.okWide Try.prog W .any base t v := hval0
  have hW' := hW
  obtain ⟨p, q, hA0, hV, rfl, hfz, hnd⟩ := hW
  have hA : DataW.TrodAll enc Try.prog W 0 (fun _ => true) true Try.f6.params.toList args.toList ds p := hA0
  rw [Try.params6] at hA hval
  obtain ⟨v0, vs0, d0, ds0, p0, q0, hargs, rfl, rfl, h0, r0⟩ := trodAll_cons hA
  obtain ⟨rfl, rfl, rfl⟩ := trodAll_nil r0
  obtain rfl : args = #[v0] := by cases args; simp_all
  obtain ⟨rfl, rfl⟩ := trodVars_none hV
  have k0 := h0
  have lt0 : ∀ x ∈ p0, x.block < W.heap.size := by obtain ⟨m, hm⟩ := k0; exact DataW.trod_lt m _ _ _ hm
  obtain ⟨ops, hops, hn⟩ := ops_of (hval 0 22 v0 rfl rfl) h0
  clear hA0 hval0
  refine (plays_ca ops v0 (outOf W) (allBlks W) hops hn W (has_allBlks W)).mono fun e W' ⟨v, L', he', ⟨hv, hL⟩, hH⟩ => ?_
  subst he' hv hL
  have bel := below_allBlks hH
  exact ⟨_, rfl, _, _, _, [], _, [], hW', trodAll_mk1 (shut_bool Try.underlying4 _), (trodAll_cons_mk (Below.trod ps_laidOut (by kernel_rfl) (of_decide_eq_true (by kernel_rfl)) k0 bel lt0) trodAll_mk0), rfl, bel.frame _, fun h => by cases h⟩

theorem playsRow_over : Rows.logbookPlaysRow.holds Try.pinned (OpenSpec.ofChange Rows.logbookPlaysSpec) :=
  OpenClaim.holds_of_wide 6 Try.f6 rfl rfl rfl rfl rfl rfl rfl ⟨rfl, rfl, rfl, rfl, rfl⟩ rfl rfl rfl rfl rfl (by kernel_rfl) Try.func6 (by kernel_rfl)
    (of_decide_eq_true (by kernel_rfl)) (by unfold Func.isWrapper; first | (rw [if_pos (by decide +kernel)]; kernel_rfl) | (rw [if_neg (by decide +kernel)]; exact ⟨rfl, rfl⟩))
    (fun os started H enc _ => playsRow_lifted os started H enc)

/-- THE STATEMENT. -/
theorem logbookPlays_proved : Rows.LogbookPlaysSaid := playsRow_over
#print axioms logbookPlays_proved
end Go.Proofs.Ytcbbogaanebefaa