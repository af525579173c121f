/-
  THE STATEMENT LogbookNil: whatever comes in, it answers true, and leaves what was there as it was. Condition: none beside the row's own.
-/
import Derived.Test.YtcbbogaanebefaaB14
import Derived.Test.YtcbbogaanebefaaRows
import Derived.WalkKit
import Derived.ProofKit
import Derived.OpenShut
import Derived.Deep.Strs
import Derived.ShutString
import Derived.ChangeOld
import Derived.Below
namespace Go.Proofs.Ytcbbogaanebefaa
open Fw
open Go.ChangeShapes Go.WideShapes Go.ChangeAt Go.RowKit
open Go.Proofs (encStr)
set_option linter.unusedVariables false
set_option maxRecDepth 100000

theorem ps_own : ownKnob Try.prog.godebug = none := by kernel_rfl
theorem ps_laidOut : laidOutB Try.prog = true := by kernel_rfl
theorem byte_of {H : Type} {enc : TypeId × Value → H} {w : World} {base : Nat} {sp : Nat → Bool} {held : Bool} {fuel : Nat} {cs : List Value} {x : DataW H × List MemPlace} (h : DataW.trod enc Try.prog w base sp held fuel 5 cs = some x) : ∃ y : UInt8, cs = encB y ∧ True := by
  obtain ⟨n, hn, _, hw⟩ := DataW.trod_int Try.underlying5 h
  simp only [Lit.wf, Bool.and_eq_true, decide_eq_true_eq] at hw
  have h1 : IntKind.min .u8 = 0 := by decide
  have h2 : IntKind.max .u8 = 255 := by decide
  refine ⟨UInt8.ofNat n.toNat, ?_, trivial⟩
  have h3 : ((UInt8.ofNat n.toNat).toNat : Int) = n := by
    rw [UInt8.toNat_ofNat']
    omega
  rw [hn]
  unfold encB
  rw [h3]
theorem bytes_of {H : Type} {enc : TypeId × Value → H} {w : World} {base b0 : Nat} {sp : Nat → Bool} {held : Bool} {r : Reach} {v : Value} {d : DataW H} {ps : List MemPlace}
    (hval : Value.okWide Try.prog w r b0 36 v) (h : DataW.Trod enc Try.prog w base sp held 36 v d ps) : ∃ bs : Bytes, RdL (allBlks w) encB 1 v bs := by
  obtain ⟨a0, len, cap, rfl⟩ := okWide_slice Try.underlying36 hval
  obtain ⟨fuel, hf⟩ := h
  simp only [Value.cells] at hf
  obtain ⟨bs, ⟨p, cap', he, hR⟩, _, _⟩ := rdW_of_trod (enc' := encB) (k := 1) (e := 5) (Good := fun _ => True) (fun _ => rfl) Try.underlying36 (by kernel_rfl) (by decide) (fun _ _ _ hh => byte_of hh) hf
  cases he
  refine ⟨bs, a0, cap, rfl, flat_length (enc := encB) (k := 1) (fun _ => rfl) _, ?_, ⟨?_, ?_⟩, hR⟩
  all_goals
    rcases DataW.trod_slice Try.underlying36 hf with ⟨hc, _⟩ | ⟨a, len, cap2, elems, rest, n, _, hc, _, _, hl, hm, hel, hget, _, _⟩
  · simp only [List.cons.injEq, Value.slice.injEq, and_true] at hc; omega
  · simp only [List.cons.injEq, Value.slice.injEq, and_true] at hc; omega
  · intro q hq; simp at hc; rw [hc.1] at hq; cases hq
  · intro q hq
    simp only [Value.okWide, Try.underlying36, Cell.okWide, Cell.ok] at hval
    subst hq
    exact hval.2.2.2.1
  · intro hq; simp at hc; exact hc.2.2
  · intro hq; simp at hc; rw [hc.1] at hq; cases hq

theorem nil_lifted (os : Os) (started : os.Started) (H : Type) (enc : TypeId × Value → H) :
    ReturnsInHanded {} Try.checked os 4 .any (Rows.logbookNilSpec.pre6 enc Try.prog Try.f4 Rows.logbookNilRow.domain false) (Rows.logbookNilSpec.post enc Try.prog Try.f4 false true false false) := by
  refine returnsInHanded_of_change (C := Try.checked) ps_own started (by kernel_rfl) Try.func4
    (ChangeSpec.witness6 (enc := enc) (C := Try.checked) false ⟨#[], #[.string ⟨#[]⟩, .slice none 0 0], []⟩ 8 (by kernel_rfl) (by kernel_rfl) (by kernel_rfl) (by kernel_rfl)) ?_
  intro W base args ds gs before hval0 hW hcnd _
  have hval : ∀ (j : Nat) t v, Try.f4.params[j]? = some t → args[j]? = some v → Value.okWide Try.prog W .any base t v := hval0
  have hW' := hW
  obtain ⟨p, q, hA0, hV, rfl, hfz, hnd⟩ := hW
  have hA : DataW.TrodAll enc Try.prog W 0 (fun _ => true) true Try.f4.params.toList args.toList ds p := hA0
  rw [Try.params4] at hA hval
  obtain ⟨v0, vs0, d0, ds0, p0, q0, hargs, rfl, rfl, h0, r0⟩ := trodAll_cons hA
  obtain ⟨v1, vs1, d1, ds1, p1, q1, rfl, rfl, rfl, h1, r1⟩ := trodAll_cons r0
  obtain ⟨rfl, rfl, rfl⟩ := trodAll_nil r1
  obtain rfl : args = #[v0, v1] := by cases args; simp_all
  obtain ⟨rfl, rfl⟩ := trodVars_none hV
  have k1 := h1
  have lt1 : ∀ x ∈ p1, x.block < W.heap.size := by obtain ⟨m, hm⟩ := k1; exact DataW.trod_lt m _ _ _ hm
  obtain ⟨s, rfl, rfl, rfl, hs⟩ := ChangeMaps.open_string Try.underlying9 (hval 0 9 v0 rfl rfl) h0
  obtain ⟨bs, hb⟩ := bytes_of (hval 1 36 v1 rfl rfl) h1
  clear hA0 hval0
  have hw := logbookNil_ca s.data.toList bs v1 (outOf W) (allBlks W) hb
  rw [show encStr s.data.toList = .string s from rfl] at hw
  refine (hw W (has_allBlks W)).mono fun e W' ⟨v, L', he', ⟨hv, hL⟩, hH⟩ => ?_
  subst he' hv hL
  have bel := below_allBlks hH
  exact ⟨_, rfl, _, _, _, [], _, [], hW', trodAll_mk1 (shut_bool Try.underlying4 _), (trodAll_cons_mk (ChangeMaps.shut_string Try.underlying9 hs) (trodAll_cons_mk (Below.trod ps_laidOut (by kernel_rfl) (of_decide_eq_true (by kernel_rfl)) k1 bel lt1) trodAll_mk0)), rfl, bel.frame _, fun h => by cases h⟩

theorem nil_over : Rows.logbookNilRow.holds Try.pinned (OpenSpec.ofChange Rows.logbookNilSpec) :=
  OpenClaim.holds_of_wide 4 Try.f4 rfl rfl rfl rfl rfl rfl rfl ⟨rfl, rfl, rfl, rfl, rfl⟩ rfl rfl rfl rfl rfl (by kernel_rfl) Try.func4 (by kernel_rfl)
    (of_decide_eq_true (by kernel_rfl)) (by unfold Func.isWrapper; first | (rw [if_pos (by decide +kernel)]; kernel_rfl) | (rw [if_neg (by decide +kernel)]; exact ⟨rfl, rfl⟩))
    (fun os started H enc _ => nil_lifted os started H enc)

/-- THE STATEMENT. -/
theorem logbookNil_proved : Rows.LogbookNilSaid := nil_over
#print axioms logbookNil_proved
end Go.Proofs.Ytcbbogaanebefaa