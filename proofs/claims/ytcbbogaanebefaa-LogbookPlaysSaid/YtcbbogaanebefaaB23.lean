/-
  THE STATEMENT LogbookLives: whatever comes in, it answers true, and leaves what was there as it was. Condition: none beside the row's own.
-/
import Derived.Test.YtcbbogaanebefaaB22
import Derived.Test.YtcbbogaanebefaaB15
namespace Go.Proofs.Ytcbbogaanebefaa
open Fw
open Go.ChangeShapes Go.WideShapes Go.ChangeAt Go.RowKit
open Go.Proofs (encStr)
set_option linter.unusedVariables false
set_option maxRecDepth 100000

section
variable {H : Type} {enc : TypeId × Value → H} {w : World} {base : Nat} {sp : Nat → Bool} {held : Bool}
theorem int_of {fuel : Nat} {cs : List Value} {x : DataW H × List MemPlace} (h : DataW.trod enc Try.prog w base sp held fuel 3 cs = some x) : ∃ a, cs = [I a] := by
  obtain ⟨a, ha, _, _⟩ := DataW.trod_int Try.underlying3 h
  exact ⟨a, ha⟩
theorem str_of {fuel : Nat} {cs : List Value} {x : DataW H × List MemPlace} (h : DataW.trod enc Try.prog w base sp held fuel 9 cs = some x) : ∃ bs : Bytes, cs = [encStr bs] := by
  obtain ⟨s, hs, _, _⟩ := DataW.trod_string Try.underlying9 h
  exact ⟨s.data.toList, hs⟩
theorem pair_of {fuel : Nat} {cs : List Value} {x : DataW H × List MemPlace} (h : DataW.trod enc Try.prog w base sp held fuel 31 cs = some x) : ∃ a b, cs = [I a, I b] := by
  obtain ⟨xs, m, _, _, hl, hlen, hf⟩ := DataW.trod_array Try.underlying31 h
  rw [show Try.prog.cellsOf 31 = 2 by kernel_rfl] at hl
  match cs, hl with
  | [c0, c1], _ =>
    have g0 := hf 0 (by omega)
    have g1 := hf 1 (by omega)
    rw [show Try.prog.cellsOf 3 = 1 by kernel_rfl, List.getElem?_eq_getElem (by omega)] at g0 g1
    obtain ⟨a, ha⟩ := int_of g0
    obtain ⟨b, hb⟩ := int_of g1
    simp at ha hb
    exact ⟨a, b, by rw [ha, hb]⟩
theorem op_of {fuel : Nat} {cs : List Value} {x : DataW H × List MemPlace} (h : DataW.trod enc Try.prog w base sp held fuel 33 cs = some x) : ∃ o, cs = encOp o ∧ True := by
  obtain ⟨xs, n, _, _, hl, hlen, hf⟩ := DataW.trod_struct Try.underlying33 h
  rw [show Try.prog.cellsOf 33 = 9 by kernel_rfl] at hl
  match cs, hl, xs, hlen with
  | [c0, c1, c2, c3, c4, c5, c6, c7, c8], _, [y0, y1, y2, y3, y4, y5, y6], _ =>
    have g0 : DataW.trod enc Try.prog w base sp held n 3 (([c0, c1, c2, c3, c4, c5, c6, c7, c8].drop 0).take (Try.prog.cellsOf 3)) = some y0 := hf 0 _ rfl
    have g1 : DataW.trod enc Try.prog w base sp held n 9 (([c0, c1, c2, c3, c4, c5, c6, c7, c8].drop 1).take (Try.prog.cellsOf 9)) = some y1 := hf 1 _ rfl
    have g2 : DataW.trod enc Try.prog w base sp held n 9 (([c0, c1, c2, c3, c4, c5, c6, c7, c8].drop 2).take (Try.prog.cellsOf 9)) = some y2 := hf 2 _ rfl
    have g3 : DataW.trod enc Try.prog w base sp held n 5 (([c0, c1, c2, c3, c4, c5, c6, c7, c8].drop 3).take (Try.prog.cellsOf 5)) = some y3 := hf 3 _ rfl
    have g4 : DataW.trod enc Try.prog w base sp held n 3 (([c0, c1, c2, c3, c4, c5, c6, c7, c8].drop 4).take (Try.prog.cellsOf 3)) = some y4 := hf 4 _ rfl
    have g5 : DataW.trod enc Try.prog w base sp held n 31 (([c0, c1, c2, c3, c4, c5, c6, c7, c8].drop 5).take (Try.prog.cellsOf 31)) = some y5 := hf 5 _ rfl
    have g6 : DataW.trod enc Try.prog w base sp held n 31 (([c0, c1, c2, c3, c4, c5, c6, c7, c8].drop 7).take (Try.prog.cellsOf 31)) = some y6 := hf 6 _ rfl
    rw [show Try.prog.cellsOf 3 = 1 by kernel_rfl] at g0 g4
    rw [show Try.prog.cellsOf 9 = 1 by kernel_rfl] at g1 g2
    rw [show Try.prog.cellsOf 5 = 1 by kernel_rfl] at g3
    rw [show Try.prog.cellsOf 31 = 2 by kernel_rfl] at g5 g6
    obtain ⟨a0, h0⟩ := int_of g0
    obtain ⟨a1, h1⟩ := str_of g1
    obtain ⟨a2, h2⟩ := str_of g2
    obtain ⟨a3, h3, _⟩ := byte_of g3
    obtain ⟨a4, h4⟩ := int_of g4
    obtain ⟨a5, b5, h5⟩ := pair_of g5
    obtain ⟨a6, b6, h6⟩ := pair_of g6
    simp [encB] at h0 h1 h2 h3 h4 h5 h6
    obtain ⟨h50, h51⟩ := h5
    obtain ⟨h60, h61⟩ := h6
    exact ⟨⟨a0, a1, a2, a3, a4, a5, b5, a6, b6⟩, by rw [h0, h1, h2, h3, h4, h50, h51, h60, h61]; rfl, trivial⟩
theorem ops_of {b0 : Nat} {r : Reach} {v : Value} {d : DataW H} {ps : List MemPlace} (hval : Value.okWide Try.prog w r b0 22 v) (h : DataW.Trod enc Try.prog w base sp held 22 v d ps) : ∃ ops : List OpT, RdW (allBlks w) encOp v ops ∧ ops.length < 9223372036854775808 := by
  obtain ⟨a0, len, cap, rfl⟩ := okWide_slice Try.underlying22 hval
  obtain ⟨fuel, hf⟩ := h
  simp only [Value.cells] at hf
  obtain ⟨ops, h1, _, h2⟩ := rdW_of_trod (enc' := encOp) (k := 9) (e := 33) (Good := fun _ => True) (fun _ => rfl) Try.underlying22 (by kernel_rfl) (by decide) (fun _ _ _ hh => op_of hh) hf
  unfold maxLen at h2
  exact ⟨ops, h1, by omega⟩
end

theorem livesRow_lifted (os : Os) (started : os.Started) (H : Type) (enc : TypeId × Value → H) :
    ReturnsInHanded {} Try.checked os 3 .any (Rows.logbookLivesSpec.pre6 enc Try.prog Try.f3 Rows.logbookLivesRow.domain false) (Rows.logbookLivesSpec.post enc Try.prog Try.f3 false true false false) := by
  refine returnsInHanded_of_change (C := Try.checked) ps_own started (by kernel_rfl) Try.func3
    (ChangeSpec.witness6 (enc := enc) (C := Try.checked) false ⟨#[], #[.slice none 0 0], []⟩ 8 (by kernel_rfl) (by kernel_rfl) (by kernel_rfl) (by kernel_rfl)) ?_
  intro W base args ds gs before hval0 hW hcnd _
  have hval : ∀ (j : Nat) t v, Try.f3.params[j]? = some t → args[j]? = some v → Value.okWide Try.prog W .any base t v := hval0
  have hW' := hW
  obtain ⟨p, q, hA0, hV, rfl, hfz, hnd⟩ := hW
  have hA : DataW.TrodAll enc Try.prog W 0 (fun _ => true) true Try.f3.params.toList args.toList ds p := hA0
  rw [Try.params3] at hA hval
  obtain ⟨v0, vs0, d0, ds0, p0, q0, hargs, rfl, rfl, h0, r0⟩ := trodAll_cons hA
  obtain ⟨rfl, rfl, rfl⟩ := trodAll_nil r0
  obtain rfl : args = #[v0] := by cases args; simp_all
  obtain ⟨rfl, rfl⟩ := trodVars_none hV
  have k0 := h0
  have lt0 : ∀ x ∈ p0, x.block < W.heap.size := by obtain ⟨m, hm⟩ := k0; exact DataW.trod_lt m _ _ _ hm
  obtain ⟨ops, hops, hn⟩ := ops_of (hval 0 22 v0 rfl rfl) h0
  clear hA0 hval0
  refine (lives_ca ops v0 (outOf W) (allBlks W) hops hn W (has_allBlks W)).mono fun e W' ⟨v, L', he', ⟨hv, hL⟩, hH⟩ => ?_
  subst he' hv hL
  have bel := below_allBlks hH
  exact ⟨_, rfl, _, _, _, [], _, [], hW', trodAll_mk1 (shut_bool Try.underlying4 _), (trodAll_cons_mk (Below.trod ps_laidOut (by kernel_rfl) (of_decide_eq_true (by kernel_rfl)) k0 bel lt0) trodAll_mk0), rfl, bel.frame _, fun h => by cases h⟩

theorem livesRow_over : Rows.logbookLivesRow.holds Try.pinned (OpenSpec.ofChange Rows.logbookLivesSpec) :=
  OpenClaim.holds_of_wide 3 Try.f3 rfl rfl rfl rfl rfl rfl rfl ⟨rfl, rfl, rfl, rfl, rfl⟩ rfl rfl rfl rfl rfl (by kernel_rfl) Try.func3 (by kernel_rfl)
    (of_decide_eq_true (by kernel_rfl)) (by unfold Func.isWrapper; first | (rw [if_pos (by decide +kernel)]; kernel_rfl) | (rw [if_neg (by decide +kernel)]; exact ⟨rfl, rfl⟩))
    (fun os started H enc _ => livesRow_lifted os started H enc)

/-- THE STATEMENT. -/
theorem logbookLives_proved : Rows.LogbookLivesSaid := livesRow_over
#print axioms logbookLives_proved
end Go.Proofs.Ytcbbogaanebefaa