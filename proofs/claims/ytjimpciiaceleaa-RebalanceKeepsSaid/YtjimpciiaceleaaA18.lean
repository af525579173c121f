/-
  THE STATEMENT PathSound: whatever comes in, it answers true, and leaves what was there as it was. Condition: none beside the row's own.
-/
import Derived.Test.YtjimpciiaceleaaA17
import Derived.Test.YtjimpciiaceleaaRows
import Derived.WalkKit
import Derived.ProofKit
import Derived.OpenShut
import Derived.Deep.Strs
import Derived.ShutString
import Derived.ChangeOld
import Derived.Below
namespace Go.Proofs.Ytjimpciiaceleaa
open Fw
open Go.ChangeShapes Go.WideShapes Go.ChangeAt Go.RowKit
set_option linter.unusedVariables false
set_option maxRecDepth 100000

theorem ps_own : ownKnob Try.prog.godebug = none := by kernel_rfl
theorem ps_laidOut : laidOutB Try.prog = true := by kernel_rfl
section
variable {H : Type} {enc : TypeId × Value → H} {w : World} {base : Nat} {sp : Nat → Bool} {held : Bool}
theorem wf_u64 {n : Int} (h : (Lit.int .u64 n).wf = true) : isU64 n := by
  simp only [Lit.wf, Bool.and_eq_true, decide_eq_true_eq] at h
  have h1 : IntKind.min .u64 = 0 := by decide
  have h2 : IntKind.max .u64 = 18446744073709551615 := by decide
  unfold isU64
  omega
theorem two_ints {e : TypeId} {k : IntKind} {fuel : Nat} {t : TypeId} {cs : List Value} {x : DataW H × List MemPlace} (ht : Try.prog.underlying t = some (.array 2 e)) (he : Try.prog.underlying e = some (.int k)) (h2 : Try.prog.cellsOf t = 2) (h1 : Try.prog.cellsOf e = 1)
    (h : DataW.trod enc Try.prog w base sp held fuel t cs = some x) : ∃ a b, cs = [.int k a, .int k b] ∧ (Lit.int k a).wf = true ∧ (Lit.int k b).wf = true := by
  obtain ⟨xs, m, _, _, hl, hlen, hf⟩ := DataW.trod_array ht h
  rw [h2] at hl
  match cs, hl with
  | [c0, c1], _ =>
    have g0 := hf 0 (by omega)
    have g1 := hf 1 (by omega)
    rw [h1, List.getElem?_eq_getElem (by omega)] at g0 g1
    obtain ⟨a, ha, _, hwa⟩ := DataW.trod_int he g0
    obtain ⟨b, hb, _, hwb⟩ := DataW.trod_int he g1
    simp at ha hb
    exact ⟨a, b, by rw [ha, hb], hwa, hwb⟩
theorem spot_of {fuel : Nat} {cs : List Value} {x : DataW H × List MemPlace} (h : DataW.trod enc Try.prog w base sp held fuel 73 cs = some x) : ∃ y, cs = encSp y ∧ True := by
  obtain ⟨y0, y1, n, _, hl, h0, h1⟩ := trod_struct2 Try.underlying73 h
  rw [show Try.prog.cellsOf 73 = 2 by kernel_rfl] at hl
  match cs, hl with
  | [c0, c1], _ =>
    rw [show Try.prog.cellsOf 3 = 1 by kernel_rfl] at h0 h1
    obtain ⟨a, ha, _, _⟩ := DataW.trod_int Try.underlying3 h0
    obtain ⟨b, hb, _, _⟩ := DataW.trod_int Try.underlying3 h1
    simp at ha hb
    exact ⟨(a, b), by rw [ha, hb]; rfl, trivial⟩
theorem fee_of {fuel : Nat} {cs : List Value} {x : DataW H × List MemPlace} (h : DataW.trod enc Try.prog w base sp held fuel 68 cs = some x) : ∃ y : Int × Int, cs = [U y.1, U y.2] ∧ goodFee y := by
  obtain ⟨y0, y1, n, _, hl, h0, h1⟩ := trod_struct2 Try.underlying68 h
  rw [show Try.prog.cellsOf 68 = 2 by kernel_rfl] at hl
  match cs, hl with
  | [c0, c1], _ =>
    rw [show Try.prog.cellsOf 26 = 1 by kernel_rfl] at h0 h1
    obtain ⟨a, ha, _, ha'⟩ := DataW.trod_int Try.underlying26 h0
    obtain ⟨b, hb, _, hb'⟩ := DataW.trod_int Try.underlying26 h1
    simp at ha hb
    exact ⟨(a, b), by rw [ha, hb]; rfl, wf_u64 ha', wf_u64 hb'⟩
theorem fees_of {fuel : Nat} {cs : List Value} {x : DataW H × List MemPlace} (h : DataW.trod enc Try.prog w base sp held fuel 69 cs = some x) : ∃ y z : Int × Int, cs = [U y.1, U y.2, U z.1, U z.2] ∧ goodFee y ∧ goodFee z := by
  obtain ⟨xs, m, _, _, hl, hlen, hf⟩ := DataW.trod_array Try.underlying69 h
  rw [show Try.prog.cellsOf 69 = 4 by kernel_rfl] at hl
  match cs, hl with
  | [c0, c1, c2, c3], _ =>
    have g0 := hf 0 (by omega)
    have g1 := hf 1 (by omega)
    rw [show Try.prog.cellsOf 68 = 2 by kernel_rfl, List.getElem?_eq_getElem (by omega)] at g0 g1
    obtain ⟨y, hy, hy'⟩ := fee_of g0
    obtain ⟨z, hz, hz'⟩ := fee_of g1
    simp at hy hz
    exact ⟨y, z, by rw [hy.1, hy.2, hz.1, hz.2], hy', hz'⟩
theorem edge_of {fuel : Nat} {cs : List Value} {x : DataW H × List MemPlace} (h : DataW.trod enc Try.prog w base sp held fuel 71 cs = some x) : ∃ y, cs = encE y ∧ goodEdge y := by
  obtain ⟨y0, y1, y2, n, _, hl, h0, h1, h2⟩ := Go.Deep.trod_struct3 Try.underlying71 h
  rw [show Try.prog.cellsOf 71 = 8 by kernel_rfl] at hl
  match cs, hl with
  | [c0, c1, c2, c3, c4, c5, c6, c7], _ =>
    rw [show Try.prog.cellsOf 47 = 2 by kernel_rfl] at h0
    rw [show Try.prog.cellsOf 48 = 2 by kernel_rfl] at h1
    rw [show Try.prog.cellsOf 69 = 4 by kernel_rfl] at h2
    obtain ⟨e0, e1, he, _, _⟩ := two_ints Try.underlying47 Try.underlying3 (by kernel_rfl) (by kernel_rfl) h0
    obtain ⟨k0, k1, hk, hk0, hk1⟩ := two_ints Try.underlying48 Try.underlying26 (by kernel_rfl) (by kernel_rfl) h1
    obtain ⟨y, z, hf, hy, hz⟩ := fees_of h2
    simp at he hk hf
    exact ⟨⟨e0, e1, k0, k1, y, z⟩, by rw [he.1, he.2, hk.1, hk.2, hf.1, hf.2.1, hf.2.2.1, hf.2.2.2]; rfl, wf_u64 hk0, wf_u64 hk1, hy, hz⟩
end
theorem web_of {H : Type} {enc : TypeId × Value → H} {w : World} {base b0 : Nat} {sp : Nat → Bool} {held : Bool} {r : Reach} {v : Value} {d : DataW H} {ps : List MemPlace}
    (hval : Value.okWide Try.prog w r b0 25 v) (h : DataW.Trod enc Try.prog w base sp held 25 v d ps) :
    ∃ sv ev spots es, v = .agg #[sv, ev] ∧ RdW (allBlks w) encSp sv spots ∧ RdW (allBlks w) encE ev es ∧ (∀ e ∈ es, goodEdge e) ∧ spots.length < 9223372036854775808 ∧ es.length < 9223372036854775808 := by
  obtain ⟨cs, rfl, _⟩ := okWide_struct Try.underlying25 hval
  obtain ⟨fuel, h⟩ := h
  obtain ⟨y0, y1, n, _, hl, h0, h1⟩ := trod_struct2 Try.underlying25 h
  rw [show Try.prog.cellsOf 25 = 2 by kernel_rfl] at hl
  rw [show Try.prog.cellsOf 22 = 1 by kernel_rfl] at h0
  rw [show Try.prog.cellsOf 23 = 1 by kernel_rfl] at h1
  obtain ⟨l⟩ := cs
  simp only [Value.cells] at hl h0 h1
  match l, hl with
  | [c0, c1], _ =>
    obtain ⟨spots, hs, _, hn⟩ := rdW_of_trod (enc' := encSp) (k := 2) (e := 73) (Good := fun _ => True) (fun _ => rfl) Try.underlying22 (by kernel_rfl) (by decide) (fun _ _ _ hh => spot_of hh) h0
    obtain ⟨es, he, hg, hm⟩ := rdW_of_trod (enc' := encE) (k := 8) (e := 71) (Good := goodEdge) (fun _ => rfl) Try.underlying23 (by kernel_rfl) (by decide) (fun _ _ _ hh => edge_of hh) h1
    unfold maxLen at hn hm
    exact ⟨c0, c1, spots, es, rfl, hs, he, hg, by omega, by omega⟩

theorem ps_lifted (os : Os) (started : os.Started) (H : Type) (enc : TypeId × Value → H) :
    ReturnsInHanded {} Try.checked os 3 .any (Rows.pathSoundSpec.pre6 enc Try.prog Try.f3 Rows.pathSoundRow.domain false) (Rows.pathSoundSpec.post enc Try.prog Try.f3 false true false false) := by
  refine returnsInHanded_of_change (C := Try.checked) ps_own started (by kernel_rfl) Try.func3
    (ChangeSpec.witness6 (enc := enc) (C := Try.checked) false ⟨#[], #[.agg #[.slice none 0 0, .slice none 0 0], .int .i64 0, .int .i64 0, .int .u64 0], []⟩ 8 (by kernel_rfl) (by kernel_rfl) (by kernel_rfl) (by kernel_rfl)) ?_
  intro W base args ds gs before hval0 hW hcnd _
  have hval : ∀ (j : Nat) t v, Try.f3.params[j]? = some t → args[j]? = some v → Value.okWide Try.prog W .any base t v := hval0
  have hW' := hW
  obtain ⟨p, q, hA0, hV, rfl, hfz, hnd⟩ := hW
  have hA : DataW.TrodAll enc Try.prog W 0 (fun _ => true) true Try.f3.params.toList args.toList ds p := hA0
  rw [Try.params3] at hA hval
  obtain ⟨v0, vs0, d0, ds0, p0, q0, hargs, rfl, rfl, h0, r0⟩ := trodAll_cons hA
  obtain ⟨v1, vs1, d1, ds1, p1, q1, rfl, rfl, rfl, h1, r1⟩ := trodAll_cons r0
  obtain ⟨v2, vs2, d2, ds2, p2, q2, rfl, rfl, rfl, h2, r2⟩ := trodAll_cons r1
  obtain ⟨v3, vs3, d3, ds3, p3, q3, rfl, rfl, rfl, h3, r3⟩ := trodAll_cons r2
  obtain ⟨rfl, rfl, rfl⟩ := trodAll_nil r3
  obtain rfl : args = #[v0, v1, v2, v3] := by cases args; simp_all
  obtain ⟨rfl, rfl⟩ := trodVars_none hV
  have k0 := h0
  have lt0 : ∀ x ∈ p0, x.block < W.heap.size := by obtain ⟨m, hm⟩ := k0; exact DataW.trod_lt m _ _ _ hm
  obtain ⟨sv, ev, spots, es, rfl, hs, he, hg, hn, hes⟩ := web_of (hval 0 25 v0 rfl rfl) h0
  obtain ⟨a1, rfl, rfl, rfl, w1⟩ := open_int Try.underlying3 (hval 1 3 v1 rfl rfl) h1
  obtain ⟨a2, rfl, rfl, rfl, w2⟩ := open_int Try.underlying3 (hval 2 3 v2 rfl rfl) h2
  obtain ⟨a3, rfl, rfl, rfl, w3⟩ := open_int Try.underlying26 (hval 3 26 v3 rfl rfl) h3
  clear hA0 hval0
  refine (sound_ca spots es a1 a2 a3 sv ev (outOf W) (allBlks W) hs he hg (wf_u64 w3) hn hes W (has_allBlks W)).mono fun e W' ⟨v, L', he', ⟨hv, hL⟩, hH⟩ => ?_
  subst he' hv hL
  have bel := below_allBlks hH
  exact ⟨_, rfl, _, _, _, [], _, [], hW', trodAll_mk1 (shut_bool Try.underlying4 _), (trodAll_cons_mk (Below.trod ps_laidOut (by kernel_rfl) (of_decide_eq_true (by kernel_rfl)) k0 bel lt0) (trodAll_cons_mk (shut_int Try.underlying3 w1) (trodAll_cons_mk (shut_int Try.underlying3 w2) (trodAll_cons_mk (shut_int Try.underlying26 w3) trodAll_mk0)))), rfl, bel.frame _, fun h => by cases h⟩

theorem ps_over : Rows.pathSoundRow.holds Try.pinned (OpenSpec.ofChange Rows.pathSoundSpec) :=
  OpenClaim.holds_of_wide 3 Try.f3 rfl rfl rfl rfl rfl rfl rfl ⟨rfl, rfl, rfl, rfl, rfl⟩ rfl rfl rfl rfl rfl (by kernel_rfl) Try.func3 (by kernel_rfl)
    (of_decide_eq_true (by kernel_rfl)) (by unfold Func.isWrapper; first | (rw [if_pos (by decide +kernel)]; kernel_rfl) | (rw [if_neg (by decide +kernel)]; exact ⟨rfl, rfl⟩))
    (fun os started H enc _ => ps_lifted os started H enc)

/-- THE STATEMENT. -/
theorem pathSound_proved : Rows.PathSoundSaid := ps_over
#print axioms pathSound_proved
end Go.Proofs.Ytjimpciiaceleaa