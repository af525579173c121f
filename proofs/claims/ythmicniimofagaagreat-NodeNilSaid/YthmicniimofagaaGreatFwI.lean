/-
  THE BASE OF THE WALKS (8): make of a slice of elements of one cell; stores into a row. No condition beyond the sizes.
-/
import Derived.Test.YthmicniimofagaaGreatFwH
namespace Go.Proofs.YthmicniimofagaaGreat
namespace Fw
set_option linter.unusedSimpArgs false
variable {P : Program} {n : Nat} {E : Env} {O : Out} {L : List Blk}
section
variable {dst : Option Tmp} {ty : TypeId} {pos : String} {after : Array Edge} {g : Option (Nat × Bool)} {x y z : Operand} {v u : Value} {T : Nat}

theorem ev_makeSlice {e eby : Nat} {zv : Value} {i j : Int} {k k' : IntKind} [ht : TSl P T e 1 eby] [hz : TZero P e zv] (hz1 : zv.cells = #[zv]) (h : ev E x = some (.int k i)) (hy : ev E y = some (.int k' j)) (h0 : 0 ≤ i) (h1 : i ≤ j) (h2 : eby * j ≤ 281474976710656) (h3 : j ≤ 281474976710656) :
    EV P ⟨dst, .makeSlice T x y, ty, pos, after, g⟩ n E O L fun u L' => ∃ b, u = .slice (some ⟨b, 0, none⟩) i.toNat j.toNat ∧ L' = (b, .cells (List.replicate j.toNat zv).toArray e (0, 0)) :: L :=
  ev_new (fun b => .slice (some ⟨b, 0, none⟩) i.toNat j.toNat) fun a hf w => by
  obtain ⟨inf, hu, hi, hs, hb⟩ := ht.get
  have hwi : IntKind.wrap .i64 i = i := wrap_in (k := .i64) ⟨by omega, by omega⟩
  have hwj : IntKind.wrap .i64 j = j := wrap_in (k := .i64) ⟨by omega, by omega⟩
  have hti : (typeInfo e).run P w = .ok inf w := by simp [typeInfo, hi]
  have hc1 : ¬ (j < 0) := by omega
  have hc2 : ¬ ((inf.bytes : Int) * j > 281474976710656) := by rw [hb]; omega
  have hc3 : ¬ (i < 0) := by omega
  have hc4 : ¬ (j < i) := by omega
  have hrow : ((Array.range (j.toNat * 1)).map fun i => (#[zv] : Array Value)[i % (#[zv] : Array Value).size]!) = (List.replicate j.toNat zv).toArray := by
    apply Array.ext
    · simp
    · intro m h1 h2
      simp [Nat.mod_one]
  have hcond : (decide (j < 0) || decide ((inf.bytes : Int) * j > 2 ^ 48) || decide (i < 0) || decide (i > j)) = false := by
    simp [hc1, hc3, hc4]; omega
  have hzz : (if j.toNat * 1 = 0 then (pure #[] : Sem (Array Value)) else do pure (← zeroValue e).cells).run P w = .ok (if j.toNat * 1 = 0 then #[] else #[zv]) w := by
    split
    · rfl
    · simp [run_zero, hz1]
  have hrow2 : ((Array.range (j.toNat * 1)).map fun i => (if j.toNat * 1 = 0 then (#[] : Array Value) else #[zv])[i % (if j.toNat * 1 = 0 then (#[] : Array Value) else #[zv]).size]!) = (List.replicate j.toNat zv).toArray := by
    by_cases h0 : j.toNat * 1 = 0
    · rw [Nat.mul_one] at h0; simp [h0]
    · simp only [h0, if_false]; exact hrow
  have hmain : (Instr.makeSlice T (.int k i) (.int k' j)).run P w = .ok (.slice (some ⟨w.heap.size, 0, none⟩) i.toNat j.toNat) { w with heap := w.heap.push (.cells (List.replicate j.toNat zv).toArray e (0, 0)) } := by
    unfold Instr.makeSlice
    rw [Sem.run_bind, run_underlying hu, Result.andThen_ok]
    simp only [asInt, asIntOf, Sem.run_bind, Sem.run_pure, Result.andThen_ok, hti, hwi, hwj]
    rw [if_neg (by simp only [Bool.or_eq_true, decide_eq_true_eq]; intro h; rcases h with ((h | h) | h) | h <;> omega)]
    simp only [Sem.run_bind, run_askRoom, Result.andThen_ok, run_sizeOf' hi, hs]
    by_cases h0 : j.toNat * 1 = 0
    · rw [if_pos h0]
      simp only [Sem.run_bind, Sem.run_pure, Result.andThen_ok, newRow, run_newObj]
      have := hrow2
      simp only [h0, if_true] at this
      rw [h0, this]
    · rw [if_neg h0]
      simp only [Sem.run_bind, run_zero, Sem.run_pure, Result.andThen_ok, newRow, run_newObj, hz1, hrow]
  simp only [execOp, hf.ev h, hf.ev hy, Sem.run_bind, hmain, Result.andThen_ok, Sem.run_pure]

theorem ev_makeSliceN {e esz eby : Nat} {zv : Value} {zs : List Value} {i j : Int} {k k' : IntKind} [ht : TSl P T e esz eby] [hz : TZero P e zv] (hz1 : CellsOf zv zs) (hzl : zs.length = esz) (hpos : Nat.ble 1 esz = true) (h : ev E x = some (.int k i)) (hy : ev E y = some (.int k' j)) (h0 : 0 ≤ i) (h1 : i ≤ j) (h2 : eby * j ≤ 281474976710656) (h3 : j ≤ 281474976710656) :
    EV P ⟨dst, .makeSlice T x y, ty, pos, after, g⟩ n E O L fun u L' => ∃ b, u = .slice (some ⟨b, 0, none⟩) i.toNat j.toNat ∧ L' = (b, .cells (rep j.toNat zs).toArray e (0, 0)) :: L :=
  ev_new (fun b => .slice (some ⟨b, 0, none⟩) i.toNat j.toNat) fun a hf w => by
  obtain ⟨inf, hu, hi, hs, hb⟩ := ht.get
  have hpos' : 1 ≤ esz := by simpa using hpos
  have hz1 := hz1.eq
  have hwi : IntKind.wrap .i64 i = i := wrap_in (k := .i64) ⟨by omega, by omega⟩
  have hwj : IntKind.wrap .i64 j = j := wrap_in (k := .i64) ⟨by omega, by omega⟩
  have hti : (typeInfo e).run P w = .ok inf w := by simp [typeInfo, hi]
  have hc1 : ¬ (j < 0) := by omega
  have hc2 : ¬ ((inf.bytes : Int) * j > 281474976710656) := by rw [hb]; omega
  have hc3 : ¬ (i < 0) := by omega
  have hc4 : ¬ (j < i) := by omega
  have hrow : ((Array.range (j.toNat * esz)).map fun i => zs.toArray[i % zs.toArray.size]!) = (rep j.toNat zs).toArray := by
    apply Array.ext
    · simp [rep_length, hzl]
    · intro m h1 h2
      have hm : m < j.toNat * zs.length := by rw [hzl]; simpa using h1
      have hg := rep_get zs j.toNat m hm
      have hlt : m % zs.length < zs.length := Nat.mod_lt _ (by omega)
      have hl2 : m < (rep j.toNat zs).length := by rw [rep_length]; exact hm
      rw [List.getElem?_eq_getElem hl2, List.getElem?_eq_getElem hlt] at hg
      simp only [Array.getElem_map, Array.getElem_range, List.getElem_toArray, List.size_toArray]
      rw [Option.some.inj hg]
      simp [hlt]
  have hmain : (Instr.makeSlice T (.int k i) (.int k' j)).run P w = .ok (.slice (some ⟨w.heap.size, 0, none⟩) i.toNat j.toNat) { w with heap := w.heap.push (.cells (rep j.toNat zs).toArray e (0, 0)) } := by
    unfold Instr.makeSlice
    rw [Sem.run_bind, run_underlying hu, Result.andThen_ok]
    simp only [asInt, asIntOf, Sem.run_bind, Sem.run_pure, Result.andThen_ok, hti, hwi, hwj]
    rw [if_neg (by simp only [Bool.or_eq_true, decide_eq_true_eq]; intro h; rcases h with ((h | h) | h) | h <;> omega)]
    simp only [Sem.run_bind, run_askRoom, Result.andThen_ok, run_sizeOf' hi, hs]
    by_cases h0 : j.toNat * esz = 0
    · rw [if_pos h0]
      have hj0 : j.toNat = 0 := by rcases Nat.mul_eq_zero.1 h0 with h | h <;> omega
      simp only [Sem.run_bind, Sem.run_pure, Result.andThen_ok, newRow, run_newObj]
      have hr0 : ∀ f : Nat → Value, Array.map f (Array.range 0) = #[] := fun f => Array.ext (by simp) (fun i h1 h2 => by simp at h2)
      simp [hj0, rep, hr0]
    · rw [if_neg h0]
      simp only [Sem.run_bind, run_zero, Sem.run_pure, Result.andThen_ok, newRow, run_newObj, hz1, hrow]
  simp only [execOp, hf.ev h, hf.ev hy, Sem.run_bind, hmain, Result.andThen_ok, Sem.run_pure]

theorem qw_index_arr {len e : Nat} {k : IntKind} {i : Int} {vs : List Value} [ht : TUn P T (.array len e)] [h1 : TOne P e] (h : ev E x = some (.agg vs.toArray)) (hy : ev E y = some (.int k i)) (h0 : 0 ≤ i) (hl : i < len) (hv : vs[i.toNat]? = some v) :
    QW P ⟨dst, .index T x y, ty, pos, after, g⟩ E v := fun a n hf w => by
  simp only [execOp, Instr.index, hf.ev h, hf.ev hy, asIntOf, Sem.run_bind, Sem.run_pure, Result.andThen_ok, run_underlying ht.ok]
  rw [if_pos ⟨h0, hl⟩]
  simp only [Sem.run_bind, h1.size, Result.andThen_ok, part, h1.isAgg, Bool.false_eq_true, if_false, Nat.mul_one]
  simp [hv]

theorem putAt_one (A : Array Value) (o : Nat) (v : Value) : putAt A o [v] = A.setIfInBounds o v := rfl
end
end Fw
end Go.Proofs.YthmicniimofagaaGreat
